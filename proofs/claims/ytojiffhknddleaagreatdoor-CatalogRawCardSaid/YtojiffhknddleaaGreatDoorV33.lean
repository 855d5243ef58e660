/-
  cowtree's visit of a node above others, by a walk. It proves no statement by itself.
-/
import Derived.Test.YtojiffhknddleaaGreatDoorV32
namespace Go.Proofs.YtojiffhknddleaaGreatDoor
open Go.RowKit Go.Lib
set_option linter.unusedSimpArgs false
set_option linter.unusedVariables false
set_option linter.unusedSectionVars false
theorem ndV_inn2 {F : Asn} {v : Value} {kk : List Int} {bb : List Ky.Nm} (hv : NdV F v (Ky.inn kk bb)) (h : 0 < kk.length) : ∃ b3 o3 c3,
    (∀ i (hi : i < kk.length) w, Sat F w → w.cell? ⟨b3, o3 + i, none⟩ = some (.int .i64 kk[i])) ∧ kk.length ≤ c3 ∧ c3 ≤ maxLen ∧ ∃ a1 c1 a5 c5, v = .agg #[.bool false, .slice a1 0 c1, .slice (some ⟨b3, o3, none⟩) kk.length c3, .slice a5 bb.length c5] := by
  obtain ⟨se, sk, sx, rfl, hh⟩ := hv
  dsimp only [Ky.inn] at hh
  obtain ⟨⟨h1, s1⟩, ⟨h3, s3⟩, h5, s5⟩ := hh
  obtain ⟨a1, c1, rfl, -⟩ := reads_shape h1
  obtain ⟨a5, c5, rfl, -⟩ := reads_shape h5
  obtain ⟨b3, o3, c3, rfl, hc3, hc4⟩ : ∃ b off c, sk = .slice (some ⟨b, off, none⟩) kk.length c ∧ kk.length ≤ c ∧ c ≤ maxLen := by
    rcases s3 with ⟨_, h0⟩ | h
    · omega
    · exact h
  refine ⟨b3, o3, c3, fun i hi w hw => ?_, hc3, hc4, a1, c1, a5, c5, rfl⟩
  obtain ⟨b', off', k0, e1, e2, hc⟩ := readsNu_get h3 i hi
  cases e1
  subst e2
  exact hc w hw
section
variable {α : Type} {A : α → Asn} {B : Nat → α → Prop} {gy : Nat} {cy : Array Value} {step : α → Ky.En → α × Bool} {c : Cq} {r : Int} {L : Tb.Pg} {key : Ky.Nm}
/-- Where the going through stands. -/
def Going (B : Nat → α → Prop) (step : α → Ky.En → α × Bool) (L : Tb.Pg) (key : Ky.Nm) (h : Nat) (T : α × Bool) (K : List Int) (s : α) : Prop :=
  ∃ (t : List Ky.En) (L2 : Tb.Pg), Tb.Vis (Tb.Sb h) key K t L2 ∧ (∀ p ∈ L2, p ∈ L) ∧ Tb.go step s t = T ∧ B t.length s
theorem going_end {h : Nat} {T : α × Bool} {s : α} (g : Going B step L key h T [] s) : T = (s, true) := by
  obtain ⟨t, L2, v, _, e, _⟩ := g
  cases v
  rw [← e]; rfl
theorem going_next (hB : Room B step) {h : Nat} {T : α × Bool} {s : α} {k : Int} {K : List Int} (g : Going B step L key h T (k :: K) s) :
    ∃ lo hi es L0 cc, Tb.Sub h lo hi k es L0 cc ∧ Tb.okb lo hi key ∧ (∀ p ∈ L0, p ∈ L) ∧ B (Tb.frm key es).length s ∧
      (((Tb.go step s (Tb.frm key es)).2 = true ∧ Going B step L key h T K (Tb.go step s (Tb.frm key es)).1) ∨ ((Tb.go step s (Tb.frm key es)).2 = false ∧ T = Tb.go step s (Tb.frm key es))) := by
  obtain ⟨t, L2, v, hL, e, hb⟩ := g
  cases v with
  | @cons lo hi _ es t' _ L1 L2 sb o rr =>
    obtain ⟨cc, sb⟩ := sb
    rw [List.length_append] at hb
    refine ⟨lo, hi, es, L1, cc, sb, o, fun p hp => hL p (by simp [hp]), hB.few hb, ?_⟩
    rw [Tb.go_append] at e
    cases hh : (Tb.go step s (Tb.frm key es)).2 with
    | true =>
      rw [hh, if_pos rfl] at e
      exact .inl ⟨rfl, t', L2, rr, fun p hp => hL p (by simp [hp]), e, hB.go _ hb⟩
    | false =>
      rw [hh] at e
      exact .inr ⟨rfl, e.symm⟩
set_option maxRecDepth 100000 in
set_option maxHeartbeats 16000000 in
theorem visit_step (hB : Room B step) {h : Nat} (ih : VisitOk A B gy cy step c r L key h) : VisitOk A B gy cy step c r L key (h + 1) := by
  intro lo hi id es L0 cc dp F w R s0 s o hL hd hb0 H hR
  have HH := Lib.hid hR
  have IH : Hid (VisitOk A B gy cy step c r L key h) := Lib.hid ih
  obtain ⟨s1, s2, K, Bk, L', n, hz, ck, pm, hcc⟩ := s
  have hir := Tb.node_inR n ck
  have hlen := n.len
  have hks := Tb.keysSize_low ck
  have hci : Tb.chd key Bk < K.length := by have := Tb.chd_le key Bk; omega
  obtain ⟨L1, L2, hv, hL2⟩ := Tb.node_vis n o hci
  obtain ⟨i, hic⟩ : ∃ i, i = Tb.chd key Bk := ⟨_, rfl⟩
  rw [← hic] at hv hci
  obtain ⟨T, hT⟩ : ∃ T, T = Tb.go step s0 (Tb.frm key es) := ⟨_, rfl⟩
  have G0 : Hid (Going B step L key h T (K.drop (i + 0)) s0) := Lib.hid ⟨_, L2, hv, fun p hp => hL p (by rw [pm.mem_iff, hL2]; simp [hp]), hT.symm, hb0⟩
  rw [← hT] at HH
  have N1 : Hid ((id, Ky.inn K Bk) ∈ L) := Lib.hid (hL _ (by simp [pm.mem_iff]))
  have N2 := Lib.hid (Ky.NdR.inner hir)
  have N3 : Hid (Ky.ndSize (Ky.inn K Bk) ≤ 240) := Lib.hid hz
  have N4 := Lib.hid hir
  have HI := Lib.hid hic
  have d1 : (dp : Int) < 24 := by omega
  obtain ⟨dn, hdn⟩ : ∃ dn : Nat, dn = dp + 1 := ⟨_, rfl⟩
  have d2 : (dp : Int) + 1 = (dn : Int) := by omega
  have d3 : (dn : Int) ≤ 24 := by omega
  have HDN : Hid (dn + h < 24) := Lib.hid (by omega)
  obtain ⟨n3, hn3⟩ : ∃ n, n = K.length := ⟨_, rfl⟩
  obtain ⟨n5, hn5⟩ : ∃ n, n = Bk.length := ⟨_, rfl⟩
  have HN := Lib.hid (And.intro hn3 hn5)
  have HKL : Hid (K.length ≤ 1000 ∧ Bk.length ≤ 1000 ∧ 0 < K.length ∧ i < K.length) := Lib.hid (by omega)
  have i0 : (0 : Int) ≤ (i : Int) := by omega
  have i1 : (i : Int) ≤ (n3 : Int) := by omega
  have i2 : (n3 : Int) ≤ 1000 := by have := HKL.out; omega
  have HBB := Lib.hid hB
  clear hR ih hb0 hB s1 s2 hz ck hcc hir hlen hks hd hdn n pm hci hic hv hL hL2 hn3 hn5 o hT
  go_enter Tryz.func76, Tryz.ntmps76
  go_upto_region 2 with (go_at_call 90; (with_reducible refine load_any N1.out N2.out N3.out d1 H ?_); intro G kv w2 NK H2 I2; have NK := Lib.hid NK; have SK := NK.out.shape; obtain ⟨b1, x1, y1, t1, x2, y2, t2, x3, y3, t3, hq⟩ := SK; subst hq)
  obtain ⟨b3, o3, c3, hX3, hc3, hc4, hq⟩ := ndV_inn2 NK.out HKL.out.2.2.1
  obtain ⟨a1, c1, a5, c5, hq⟩ := hq
  cases hq
  rw [← HN.out.1] at hc3
  rw [← HN.out.1, ← HN.out.2] at NK ⊢
  have H3 := (H2.new (.cells #[.bool false, .slice x1 0 t1, .slice (some ⟨b3, o3, none⟩) n3 t2, .slice x3 n5 t3] 140)).of_eq (show _ = pts w2.heap.size (.cells #[.bool false, .slice x1 0 t1, .slice (some ⟨b3, o3, none⟩) n3 t2, .slice x3 n5 t3] 140) * (G * (CtAt c r 0 L * (A s0 * F))) from by ac_rfl)
  have I3 := I2.alloc (.cells #[.bool false, .slice x1 0 t1, .slice (some ⟨b3, o3, none⟩) n3 t2, .slice x3 n5 t3] 140)
  generalize w2.alloc (.cells #[.bool false, .slice x1 0 t1, .slice (some ⟨b3, o3, none⟩) n3 t2, .slice x3 n5 t3] 140) = w3 at *
  generalize w2.heap.size = gn at *
  have HX := Lib.hid hX3
  have i3 : (n3 : Int) ≤ (t2 : Int) := by omega
  have i4 : (i : Int) ≤ (t2 : Int) := by omega
  have i5 : ¬ t2 = i := by have := HKL.out; have := HN.out; omega
  obtain ⟨u0, u1, u2, u3⟩ := nd4 H3
  clear H2 I2 hX3 hc3 hc4 H
  go_upto_region 7 with fail
  have H3 := H3.drew
  have I3 := I3.drew
  have S0 := nd4 H3
  go_region_held3 (fun W => W.cell? ⟨gn, 0, none⟩ = some (.bool false) ∧ W.cell? ⟨gn, 1, none⟩ = some (.slice x1 0 t1) ∧ W.cell? ⟨gn, 2, none⟩ = some (.slice (some ⟨b3, o3, none⟩) n3 t2) ∧ W.cell? ⟨gn, 3, none⟩ = some (.slice x3 n5 t3)) (with_reducible (first | exact S0 | exact S1)) (first
    | (go_at_call 92; (with_reducible refine child_any N4.out (NK.out.imp (fun _ hw => hw.right.left)) (by have := HKL.out; omega) key H3 HI ?_); intro w4 H4 I4; have S1 := nd4 H4))
  have J4 := I3.trans I4
  have H5 := H4.right
  clear H3 I3 I4 S0 S1 u0 u1 u2 u3 H4
  obtain ⟨m, hm⟩ : ∃ m, m = n3 - i := ⟨_, rfl⟩
  have HM := Lib.hid hm
  have m1 : (m : Int) ≤ 1000 := by omega
  rw [← hm]
  clear hm
  go_wp2_with fail
  generalize t2 - i = ct at *
  clear i3 i4 i5
  go_loopw [52] (fun x wr => ∃ (j : Nat) (s' : α), j ≤ m ∧ x = .int .i64 (j : Int) ∧ Hid (Going B step L key h T (K.drop (i + j)) s') ∧ Sat (G * (CtAt c r 0 L * (A s' * F))) wr ∧ Io w wr) (fun x _ => m - (RowKit.intOf x).toNat)
  case atStart => exact ⟨0, s0, by omega, rfl, G0, H5, J4⟩
  case round =>
    obtain ⟨j, s', hj, rfl, hs, Hk, Ik⟩ := hrel
    clear H5 J4 G0
    by_cases hlt : j < m
    · have hlti : (j : Int) < (m : Int) := by omega
      have j0 : (0 : Int) ≤ (j : Int) := by omega
      have hlk : i + j < K.length := by have := HM.out; have := HN.out; omega
      have hdr := List.drop_eq_getElem_cons hlk
      have x0 := HX.out (i + j) hlk wr Hk.left
      obtain ⟨kid, hkid⟩ : ∃ kid, K[i + j] = kid := ⟨_, rfl⟩
      rw [hkid] at hdr x0
      rw [← Nat.add_assoc] at x0
      have gn := hs.out
      rw [hdr] at gn
      obtain ⟨lo2, hi2, e2, L2, cc2, q1, q2, q3, q3b, q4⟩ := going_next HBB.out gn
      have Q := Lib.hid (And.intro q1 (And.intro q2 (And.intro q3 q3b)))
      have Hv := Hk.of_eq (show _ = CtAt c r 0 L * (A s' * (G * F)) from by ac_rfl)
      have HD1 := HDN.out
      clear hdr q1 q2 q3 q3b gn hs
      rcases q4 with ⟨q5, q6⟩ | ⟨q5, q6⟩
      · have Q6 := Lib.hid q6
        clear q6
        have IK : Hid (∀ R : Ending → World → Prop, (∀ w', Sat (CtAt c r 0 L * (A (Tb.go step s' (Tb.frm key e2)).1 * (G * F))) w' → Io wr w' → R (.returned (.tuple #[.bool true, .int .i64 0])) w') → Calls Tryz.prog 76 #[.pointer (some ⟨c.tr, 0, none⟩), .int .i64 kid, .int .i64 (dn : Int), .string key, .func (.func gy) #[] cy] wr R) := Lib.hid (fun R hr => IH.out Q.out.1 Q.out.2.1 Q.out.2.2.1 HDN.out Q.out.2.2.2 Hv (fun w' h1 h2 => by rw [q5]; exact hr w' h1 h2))
        go_wp2_with (go_at_call 76; (with_reducible refine IK.out _ ?_); intro w5 H6 I6)
        go_roundw
        case rel => exact ⟨j + 1, _, by omega, by go_num, Q6, H6.of_eq (by ac_rfl), Ik.trans I6⟩
        case measure => simp [RowKit.intOf]; omega
      · have Q6 := Lib.hid q6
        clear q6
        have IK : Hid (∀ R : Ending → World → Prop, (∀ w', Sat (CtAt c r 0 L * (A (Tb.go step s' (Tb.frm key e2)).1 * (G * F))) w' → Io wr w' → R (.returned (.tuple #[.bool false, .int .i64 0])) w') → Calls Tryz.prog 76 #[.pointer (some ⟨c.tr, 0, none⟩), .int .i64 kid, .int .i64 (dn : Int), .string key, .func (.func gy) #[] cy] wr R) := Lib.hid (fun R hr => IH.out Q.out.1 Q.out.2.1 Q.out.2.2.1 HDN.out Q.out.2.2.2 Hv (fun w' h1 h2 => by rw [q5]; exact hr w' h1 h2))
        go_wp2_with (go_at_call 76; (with_reducible refine IK.out _ ?_); intro w5 H6 I6)
        have H7 := (H6.of_eq (show _ = (CtAt c r 0 L * (A (Tb.go step s' (Tb.frm key e2)).1 * F)) * G from by ac_rfl)).left
        have fin := HH.out w5 (by rw [Q6.out]; exact H7) (Ik.trans I6)
        rw [Q6.out, q5] at fin
        exact fin
    · obtain rfl : j = m := by omega
      have hge : ¬ (j : Int) < (j : Int) := by omega
      have hK : K.drop (i + j) = [] := List.drop_eq_nil_of_le (by have := HM.out; have := HN.out; omega)
      have gn := hs.out
      rw [hK] at gn
      have hT := going_end gn
      have fin := HH.out wr (by rw [hT]; exact (Hk.of_eq (show _ = (CtAt c r 0 L * (A s' * F)) * G from by ac_rfl)).left) Ik
      rw [hT] at fin
      have FIN := Lib.hid fin
      clear hK gn hT fin HX hs
      go_wp2_with fail
      exact FIN.out
/-- GOING THROUGH A TREE. -/
theorem visit_any (eg : ∀ args w, (callFunc gy args).run Tryz.prog w = .ok (.enter gy args) w) (hB : Room B step) (hy : YieldOk A B gy cy step) : ∀ h, VisitOk A B gy cy step c r L key h
  | 0 => visit_leaf eg hy
  | h + 1 => visit_step hB (visit_any eg hB hy h)
end
end Go.Proofs.YtojiffhknddleaaGreatDoor

/-
  cowtree's each and Scan, by walks. It proves no statement by itself.
-/
namespace Go.Proofs.YtojiffhknddleaaGreatDoor
open Go.RowKit Go.Lib
set_option linter.unusedSimpArgs false
set_option linter.unusedVariables false
set_option linter.unusedSectionVars false
/-- .. with one entry. -/
def Yield1 {α : Type} (A : α → Asn) (B : Nat → α → Prop) (gi : Nat) (ci : Array Value) (step : α → Ky.En → α × Bool) : Prop :=
  ∀ {F : Asn} {w : World} {R : Ending → World → Prop} (s : α) (x : Ky.En), B 1 s → Sat (A s * F) w →
    (∀ w', Sat (A (step s x).1 * F) w' → Io w w' → R (.returned (.bool (step s x).2)) w') → Calls Tryz.prog gi (#[.agg #[.string x.1, .string x.2]] ++ ci) w R
def YieldBox (by0 gi : Nat) (ci : Array Value) (t : TypeId) : Asn := pts by0 (.cells #[.func (.func gi) #[] ci] t (0, 0))
section
variable {α : Type} {A : α → Asn} {B : Nat → α → Prop} {gi : Nat} {ci : Array Value} {step : α → Ky.En → α × Bool}
set_option maxRecDepth 100000 in
set_option maxHeartbeats 16000000 in
theorem each_yield {by0 : Nat} {t : TypeId} (eg : ∀ args w, (callFunc gi args).run Tryz.prog w = .ok (.enter gi args) w) (hB : Room B step) (hy : Yield1 A B gi ci step) : YieldOk (fun s => YieldBox by0 gi ci t * A s) B 77 #[.pointer (some ⟨by0, 0, none⟩)] step := by
  intro F w R l v s0 hb0 hv hl H hR
  have HH := Lib.hid hR
  have HY : Hid (Yield1 A B gi ci step) := Lib.hid hy
  obtain ⟨a, c, rfl, hm⟩ := readsE_len hv
  have HV := Lib.hid hv
  obtain ⟨T, hT⟩ : ∃ T, T = Tb.go step s0 l := ⟨_, rfl⟩
  rw [← hT] at HH
  have HTT := Lib.hid hT
  have HB0 := Lib.hid hb0
  have HBB := Lib.hid hB
  clear hR hy hv hT hb0 hB
  go_enter Tryz.func77, Tryz.ntmps77
  go_wp2_with fail
  have HVG := Lib.hid (fun k hk => readsE_get HV.out k hk)
  go_loopw [8] (fun x wr => ∃ (j : Nat) (s' : α), j ≤ l.length ∧ x = .int .i64 (j : Int) ∧ Hid (T = Tb.go step s' (l.drop j) ∧ B (l.drop j).length s') ∧ Sat (A s' * (YieldBox by0 gi ci t * F)) wr ∧ Io w wr) (fun x _ => l.length - (RowKit.intOf x).toNat)
  case atStart => exact ⟨0, s0, by omega, rfl, Lib.hid (by rw [List.drop_zero]; exact ⟨HTT.out, HB0.out⟩), H.of_eq (by ac_rfl), Io.refl _⟩
  case round =>
    obtain ⟨j, s', hj, rfl, hs, Hk, Ik⟩ := hrel
    clear H
    by_cases hlt : j < l.length
    · have hlti : (j : Int) < (l.length : Int) := by omega
      have j0 : (0 : Int) ≤ (j : Int) := by omega
      obtain ⟨b, off, xk, xv, rfl, hx, hc⟩ := HVG.out j hlt
      obtain ⟨g0, g1⟩ := hc wr Hk.right.right
      have hdr := List.drop_eq_getElem_cons hlt
      rw [hx] at hdr
      have gs0 := hs.out
      rw [hdr] at gs0
      obtain ⟨gs, gb⟩ := gs0
      rw [List.length_cons] at gb
      have GB := Lib.hid gb
      clear gb
      simp only [Tb.go] at gs
      have K2 := (Hk.new (.cells #[.string xk, .string xv] 50))
      have J2 := Ik.alloc (.cells #[.string xk, .string xv] 50)
      obtain ⟨q0, q1⟩ := nd2 K2
      have yb := Sat.read (show Sat (pts by0 (.cells #[.func (.func gi) #[] ci] t (0, 0))) _ from K2.right.right.left).at 0
      simp only [List.getElem?_toArray, List.getElem?_cons_zero, List.getElem?_cons_succ] at yb
      have K3 := K2.right
      clear hc hx hdr hs
      cases q5 : (step s' (xk, xv)).2 with
      | true =>
        rw [q5, if_pos rfl] at gs
        have GS := Lib.hid gs
        have IK : Hid (∀ (W : World) (R : Ending → World → Prop), Sat (A s' * (YieldBox by0 gi ci t * F)) W → (∀ w', Sat (A (step s' (xk, xv)).1 * (YieldBox by0 gi ci t * F)) w' → Io W w' → R (.returned (.bool true)) w') → Calls Tryz.prog gi (#[.agg #[.string xk, .string xv]] ++ ci) W R) := Lib.hid (fun W R hS hr => HY.out s' (xk, xv) (HBB.out.few (m := (l.drop (j + 1)).length) (by rw [Nat.add_comm]; exact GB.out)) hS (fun w' h1 h2 => by rw [q5]; exact hr w' h1 h2))
        have Q5 := Lib.hid q5
        clear gs q5
        go_wp2_with (go_at_fn gi; refine IK.out _ _ K3 ?_; intro w5 H6 I6)
        go_roundw
        case rel => exact ⟨j + 1, _, by omega, by go_num, Lib.hid ⟨GS.out, HBB.out.next _ _ _ GB.out⟩, H6, J2.trans I6⟩
        case measure => simp [RowKit.intOf]; omega
      | false =>
        rw [q5] at gs
        have GS : Hid (T = ((step s' (xk, xv)).1, false)) := Lib.hid (by simpa using gs)
        have IK : Hid (∀ (W : World) (R : Ending → World → Prop), Sat (A s' * (YieldBox by0 gi ci t * F)) W → (∀ w', Sat (A (step s' (xk, xv)).1 * (YieldBox by0 gi ci t * F)) w' → Io W w' → R (.returned (.bool false)) w') → Calls Tryz.prog gi (#[.agg #[.string xk, .string xv]] ++ ci) W R) := Lib.hid (fun W R hS hr => HY.out s' (xk, xv) (HBB.out.few (m := (l.drop (j + 1)).length) (by rw [Nat.add_comm]; exact GB.out)) hS (fun w' h1 h2 => by rw [q5]; exact hr w' h1 h2))
        have Q5 := Lib.hid q5
        clear gs q5
        go_wp2_with (go_at_fn gi; refine IK.out _ _ K3 ?_; intro w5 H6 I6)
        have fin := HH.out w5 (by rw [GS.out]; exact H6.of_eq (by ac_rfl)) (J2.trans I6)
        rw [GS.out] at fin
        exact fin
    · obtain rfl : j = l.length := by omega
      have hge : ¬ (l.length : Int) < (l.length : Int) := by omega
      have gs := hs.out.1
      rw [List.drop_length] at gs
      simp only [Tb.go] at gs
      have fin := HH.out wr (by rw [gs]; exact Hk.of_eq (by ac_rfl)) Ik
      rw [gs] at fin
      have FIN := Lib.hid fin
      clear fin gs hs HV HVG
      go_wp2_with fail
      exact FIN.out
end
end Go.Proofs.YtojiffhknddleaaGreatDoor

/-
  cowtree's Scan, by walks. It proves no statement by itself.
-/
namespace Go.Proofs.YtojiffhknddleaaGreatDoor
open Go.RowKit Go.Lib
set_option linter.unusedSimpArgs false
set_option linter.unusedVariables false
set_option linter.unusedSectionVars false
namespace Tb
open Ky
/-- A tree has something. -/
theorem Sub.ne : ∀ {h : Nat} {lo hi : Bd} {id : Int} {es : List En} {L : Pg} {c : Nat}, Sub h lo hi id es L c → es ≠ []
  | 0, _, _, _, _, _, _, s => by
    obtain ⟨_, _, _, _, h, _⟩ := s; exact h
  | h + 1, _, _, _, _, _, _, s => by
    obtain ⟨_, _, K, B, L', n, _⟩ := s
    cases n with
    | mk h r =>
      obtain ⟨c, h⟩ := h
      have := Sub.ne h
      simp [this]
/-- Below a bound; none, if it is empty. -/
def under (ub : Nm) (x : En) : Bool := decide (ub.size = 0) || Md.nlt x.1 ub
/-- Scan's step. -/
def sstep (ub : Nm) (acc : List En) (x : En) : List En × Bool := if under ub x then (acc ++ [x], true) else (acc, false)
/-- What Scan gives. -/
def scan (from_ ub : Nm) (l : List En) : List En := (go (sstep ub) [] (frm from_ l)).1
def sroom (n : Nat) (acc : List En) : Prop := acc.length + n ≤ 100000
theorem room_scan (ub : Nm) : Room sroom (sstep ub) where
  less := fun n s h => by unfold sroom at *; omega
  next := fun n s x h => by
    unfold sstep
    split
    · unfold sroom at *; simp only [List.length_append, List.length_singleton]; omega
    · unfold sroom at *; simp only; omega
theorem go_scan (ub : Nm) : ∀ (l acc : List En), (go (sstep ub) acc l).1 = acc ++ l.takeWhile (under ub)
  | [], acc => by simp [go]
  | x :: l, acc => by
    by_cases h : under ub x = true
    · have e : sstep ub acc x = (acc ++ [x], true) := by unfold sstep; rw [if_pos h]
      simp only [go, e, if_true, List.takeWhile_cons, h]
      rw [go_scan ub l]
      simp
    · have e : sstep ub acc x = (acc, false) := by unfold sstep; rw [if_neg h]
      simp [go, e, List.takeWhile_cons, h]
theorem scan_eq (from_ ub : Nm) (l : List En) : scan from_ ub l = (frm from_ l).takeWhile (under ub) := by
  unfold scan
  rw [go_scan]
  rfl
end Tb
theorem nd1 {b : Nat} {x : Value} {t : TypeId} {G : Asn} {w : World} (H : Sat (pts b (.cells #[x] t (0, 0)) * G) w) : w.cell? ⟨b, 0, none⟩ = some x ∧ w.frozen? ⟨b, 0, none⟩ = false :=
  ⟨Sat.read H.left.at 0, Sat.free H.left.at 0⟩
def ScanBox (bt bl : Nat) (ub : Ky.Nm) (acc : List Ky.En) : Asn := pts bt (.cells #[.string ub] 9) * (ex fun v : Value => pts bl (.cells #[v] 48 (0, 0)) * RowE v acc)
section
variable {c : Cq} {r : Int} {L : Tb.Pg} {F : Asn} {w : World} {R : Ending → World → Prop}
theorem sat_scan {bt bl : Nat} {ub : Ky.Nm} {acc : List Ky.En} : Sat (ScanBox bt bl ub acc * F) w ↔ ∃ v, Sat (pts bt (.cells #[.string ub] 9) * (pts bl (.cells #[v] 48 (0, 0)) * (RowE v acc * F))) w := by
  have e0 : ScanBox bt bl ub acc * F = (ex fun v : Value => pts bl (.cells #[v] 48 (0, 0)) * RowE v acc) * (pts bt (.cells #[.string ub] 9) * F) := by unfold ScanBox; ac_rfl
  rw [e0, sat_ex]
  constructor
  · rintro ⟨v, h⟩; exact ⟨v, h.of_eq (by ac_rfl)⟩
  · rintro ⟨v, h⟩; exact ⟨v, h.of_eq (by ac_rfl)⟩
set_option maxRecDepth 100000 in
set_option maxHeartbeats 8000000 in
theorem scan_yield {bt bl : Nat} {ub : Ky.Nm} (hub : ub.size ≤ 1000000) : Yield1 (ScanBox bt bl ub) Tb.sroom 52 #[.pointer (some ⟨bt, 0, none⟩), .pointer (some ⟨bl, 0, none⟩)] (Tb.sstep ub) := by
  intro F w R acc x hb H hR
  obtain ⟨v, H0⟩ := sat_scan.1 H
  obtain ⟨xk, xv⟩ := x
  have HH := Lib.hid hR
  have HBD : Hid (acc.length ≤ 99999) := Lib.hid (by unfold Tb.sroom at hb; omega)
  have HP := H0.new (.cells #[.string xk, .string xv] 50)
  have IP := (Io.refl w).alloc (.cells #[.string xk, .string xv] 50)
  obtain ⟨q0, q1⟩ := nd2 HP
  have t0 := Sat.read HP.right.left.at 0
  obtain ⟨z0, z1⟩ := nd1 HP.right.right
  simp only [List.getElem?_toArray, List.getElem?_cons_zero, List.getElem?_cons_succ] at t0
  clear hR hb
  by_cases hz : ub.size = 0
  · have hu : Tb.sstep ub acc (xk, xv) = (acc ++ [(xk, xv)], true) := by unfold Tb.sstep Tb.under; simp [hz]
    rw [hu] at HH
    have e1 : ub.toList.isEmpty = true := by
      have : ub = ⟨#[]⟩ := by obtain ⟨d⟩ := ub; congr 1; exact Array.eq_empty_of_size_eq_zero hz
      rw [this]; simp
    have HQ := HP.of_eq (show _ = RowE v acc * (pts w.heap.size (.cells #[.string xk, .string xv] 50) * (pts bt (.cells #[.string ub] 9) * (pts bl (.cells #[v] 48 (0, 0)) * F))) from by ac_rfl)
    clear hu hz HP
    go_enter Tryz.func52, Tryz.ntmps52
    go_wp2_with (at_builtin; refine wpList_append_rec Tryz.rowE encE_ok rfl (.tmp 15) (.tmp 17) rfl rfl HQ (by have := HBD.out; omega) (xk, xv) rfl (by simp) ?_; intro v3 w3 H3 I3; have H4 := H3.of_eq (show _ = pts bl (.cells #[v] 48 (0, 0)) * (pts bt (.cells #[.string ub] 9) * (RowE v3 (acc ++ [(xk, xv)]) * F)) * pts w.heap.size (.cells #[.string xk, .string xv] 50) from by unfold RowE; ac_rfl); have Z := nd1 H4.left; obtain ⟨z0, z1⟩ := Z; obtain ⟨a3, n3, c3, hq⟩ := rowOf_form3 H3; subst hq)
    have H5 := H4.left.cell 0 (.slice a3 n3 c3)
    exact HH.out _ (sat_scan.2 ⟨.slice a3 n3 c3, H5.of_eq (show _ = _ from by simp; ac_rfl)⟩) ((IP.trans I3).setCell _ _)
  · have e1 : ub.toList.isEmpty = false := not_empty (by omega)
    cases hn : Md.nlt xk ub with
    | true =>
      have hu : Tb.sstep ub acc (xk, xv) = (acc ++ [(xk, xv)], true) := by unfold Tb.sstep Tb.under; simp [hn]
      rw [hu] at HH
      have e2 : Op.bytesLess xk.toList ub.toList = true := hn
      have HQ := HP.of_eq (show _ = RowE v acc * (pts w.heap.size (.cells #[.string xk, .string xv] 50) * (pts bt (.cells #[.string ub] 9) * (pts bl (.cells #[v] 48 (0, 0)) * F))) from by ac_rfl)
      clear hu hz HP hn
      go_enter Tryz.func52, Tryz.ntmps52
      go_wp2_with (at_builtin; refine wpList_append_rec Tryz.rowE encE_ok rfl (.tmp 15) (.tmp 17) rfl rfl HQ (by have := HBD.out; omega) (xk, xv) rfl (by simp) ?_; intro v3 w3 H3 I3; have H4 := H3.of_eq (show _ = pts bl (.cells #[v] 48 (0, 0)) * (pts bt (.cells #[.string ub] 9) * (RowE v3 (acc ++ [(xk, xv)]) * F)) * pts w.heap.size (.cells #[.string xk, .string xv] 50) from by unfold RowE; ac_rfl); have Z := nd1 H4.left; obtain ⟨z0, z1⟩ := Z; obtain ⟨a3, n3, c3, hq⟩ := rowOf_form3 H3; subst hq)
      have H5 := H4.left.cell 0 (.slice a3 n3 c3)
      exact HH.out _ (sat_scan.2 ⟨.slice a3 n3 c3, H5.of_eq (show _ = _ from by simp; ac_rfl)⟩) ((IP.trans I3).setCell _ _)
    | false =>
      have hu : Tb.sstep ub acc (xk, xv) = (acc, false) := by unfold Tb.sstep Tb.under; simp [hn, hz]
      rw [hu] at HH
      have e2 : Op.bytesLess xk.toList ub.toList = false := hn
      clear hu hz hn
      go_enter Tryz.func52, Tryz.ntmps52
      go_wp2_with fail
      exact HH.out _ (sat_scan.2 ⟨v, HP.right⟩) IP
theorem callEach (args : Array Value) (w : World) : (callFunc 77 args).run Tryz.prog w = .ok (.enter 77 args) w := enters_of Tryz.func77 (by kernel_rfl) rfl args w
theorem callScan (args : Array Value) (w : World) : (callFunc 52 args).run Tryz.prog w = .ok (.enter 52 args) w := enters_of Tryz.func52 (by kernel_rfl) rfl args w
theorem visit_root {α : Type} {A : α → Asn} {B : Nat → α → Prop} {gy : Nat} {cy : Array Value} {step : α → Ky.En → α × Bool} {h cc : Nat} {es : List Ky.En} {key : Ky.Nm} {s : α} (hv : VisitOk A B gy cy step c r L key h) (sb : Tb.Sub h none none r es L cc) (hh : h < 24) (hb : B (Tb.frm key es).length s) (H : Sat (CtAt c r 0 L * (A s * F)) w)
    (hR : ∀ w', Sat (CtAt c r 0 L * (A (Tb.go step s (Tb.frm key es)).1 * F)) w' → Io w w' → R (.returned (.tuple #[.bool (Tb.go step s (Tb.frm key es)).2, .int .i64 0])) w') :
    Calls Tryz.prog 76 #[.pointer (some ⟨c.tr, 0, none⟩), .int .i64 r, .int .i64 0, .string key, .func (.func gy) #[] cy] w R :=
  hv (dp := 0) sb ⟨fun y hy => (by cases hy), .inl (fun y hy => by cases hy)⟩ (fun p hp => hp) (by omega) hb H hR
set_option maxRecDepth 100000 in
set_option maxHeartbeats 8000000 in
/-- GOING THROUGH THE ENTRIES from a key on. -/
theorem each_more {α : Type} {A : α → Asn} {B : Nat → α → Prop} {gi : Nat} {ci : Array Value} {step : α → Ky.En → α × Bool} (eg : ∀ args w, (callFunc gi args).run Tryz.prog w = .ok (.enter gi args) w) (hB : Room B step) (hy : Yield1 A B gi ci step)
    {h cc : Nat} {es : List Ky.En} {key : Ky.Nm} {s : α} (sb : Tb.Sub h none none r es L cc) (hh : h < 24) (hb : B (Tb.frm key es).length s) (H : Sat (CtAt c r 0 L * (A s * F)) w)
    (hR : ∀ w', Sat (CtAt c r 0 L * (A (Tb.go step s (Tb.frm key es)).1 * F)) w' → Io w w' → R (.returned (.int .i64 0)) w') :
    Calls Tryz.prog 51 #[.pointer (some ⟨c.tr, 0, none⟩), .string key, .func (.func gi) #[] ci] w R := by
  have HH := Lib.hid hR
  have hid := sb.bounds.2
  have r0 : ¬ r = 0 := by have := hid.1; omega
  have HV : Hid (VisitOk (fun s => YieldBox w.heap.size gi ci 98 * A s) B 77 #[.pointer (some ⟨w.heap.size, 0, none⟩)] step c r L key h) := Lib.hid (visit_any callEach hB (each_yield eg hB hy) h)
  have HS := Lib.hid (And.intro sb (And.intro hh hb))
  have H1 := (H.new (.cells #[.func (.func gi) #[] ci] 98)).of_eq (show _ = CtAt c r 0 L * ((YieldBox w.heap.size gi ci 98 * A s) * F) from by unfold YieldBox; ac_rfl)
  have I1 := (Io.refl w).alloc (.cells #[.func (.func gi) #[] ci] 98)
  obtain ⟨v0, v1, v2⟩ := CtAt.cells H1
  clear hR sb hh hb hid hy hB
  go_enter Tryz.func51, Tryz.ntmps51
  go_upto_region 4 with (go_at_call 76; (with_reducible refine visit_root HV.out HS.out.1 HS.out.2.1 HS.out.2.2 H1 ?_); intro w2 H2 I2)
  go_wp2_with fail
  exact HH.out _ (H2.of_eq (show _ = (CtAt c r 0 L * (A (Tb.go step s (Tb.frm key es)).1 * F)) * YieldBox w.heap.size gi ci 98 from by ac_rfl)).left (I1.trans I2)
set_option maxRecDepth 100000 in
set_option maxHeartbeats 8000000 in
theorem scan_more {h cc : Nat} {es : List Ky.En} {key ub : Ky.Nm} (sb : Tb.Sub h none none r es L cc) (hh : h < 24) (hl : es.length ≤ 100000) (hub : ub.size ≤ 1000000) (H : Sat (CtAt c r 0 L * F) w)
    (hR : ∀ v w', Sat (RowE v (Tb.scan key ub es) * (CtAt c r 0 L * F)) w' → Io w w' → R (.returned (.tuple #[v, .int .i64 0])) w') :
    Calls Tryz.prog 24 #[.pointer (some ⟨c.tr, 0, none⟩), .string key, .string ub] w R := by
  have HH := Lib.hid hR
  have HS := Lib.hid (And.intro sb (And.intro hh hub))
  have HB : Hid (Tb.sroom (Tb.frm key es).length []) := Lib.hid (by unfold Tb.sroom Tb.frm; simp only [List.length_nil, List.length_drop]; omega)
  have H1 := (H.new (.cells #[.string ub] 9)).new (.cells #[.slice none 0 0] 48)
  have I1 := ((Io.refl w).alloc (.cells #[.string ub] 9)).alloc (.cells #[.slice none 0 0] 48)
  have H2 := (rowOf_nil (enc := encE) (sz := 2) (e := 50) H1).of_eq (show _ = pts w.heap.size (.cells #[.string ub] 9) * (pts (w.heap.size + 1) (.cells #[.slice none 0 0] 48 (0, 0)) * (RowE (.slice none 0 0) [] * (CtAt c r 0 L * F))) from by unfold RowE; rw [heap_alloc]; ac_rfl)
  have H3 := (sat_scan.2 ⟨_, H2⟩).of_eq (show _ = CtAt c r 0 L * (ScanBox w.heap.size (w.heap.size + 1) ub [] * F) from by ac_rfl)
  have HY : Hid (Yield1 (ScanBox w.heap.size (w.heap.size + 1) ub) Tb.sroom 52 #[.pointer (some ⟨w.heap.size, 0, none⟩), .pointer (some ⟨w.heap.size + 1, 0, none⟩)] (Tb.sstep ub)) := Lib.hid (scan_yield hub)
  clear hR sb hh hub hl H1 H2
  go_enter Tryz.func24, Tryz.ntmps24
  go_upto_region 2 with fail
  generalize (w.alloc (.cells #[.string ub] 9)).alloc (.cells #[.slice none 0 0] 48) = w1 at *
  generalize w.heap.size = b at *
  go_upto_region 3 with (go_at_call 51; (with_reducible refine each_more callScan (Tb.room_scan ub) HY.out HS.out.1 HS.out.2.1 HB.out H3 ?_); intro w2 H4 I4)
  obtain ⟨v, H5⟩ := sat_scan.1 (H4.of_eq (show _ = ScanBox b (b + 1) ub (Tb.go (Tb.sstep ub) [] (Tb.frm key es)).1 * (CtAt c r 0 L * F) from by ac_rfl))
  obtain ⟨a3, n3, c3, hq⟩ := rowOf_form3 H5.right.right
  subst hq
  obtain ⟨z0, z1⟩ := nd1 H5.right
  go_wp2_with fail
  exact HH.out _ _ H5.right.right (I1.trans I4)
set_option maxRecDepth 100000 in
set_option maxHeartbeats 8000000 in
theorem each_none {gi : Nat} {ci : Array Value} (key : Ky.Nm) (H : Sat (CtAt c 0 0 L * F) w)
    (hR : ∀ w', Sat (CtAt c 0 0 L * F) w' → Io w w' → R (.returned (.int .i64 0)) w') :
    Calls Tryz.prog 51 #[.pointer (some ⟨c.tr, 0, none⟩), .string key, .func (.func gi) #[] ci] w R := by
  have HR := Lib.hid hR
  have H1 := H.new (.cells #[.func (.func gi) #[] ci] 98)
  have I1 := (Io.refl w).alloc (.cells #[.func (.func gi) #[] ci] 98)
  obtain ⟨v0, v1, v2⟩ := CtAt.cells H1.right
  clear hR
  go_enter Tryz.func51, Tryz.ntmps51
  go_wp2_with fail
  exact HR.out _ H1.right I1
set_option maxRecDepth 100000 in
set_option maxHeartbeats 8000000 in
theorem scan_nothing (key ub : Ky.Nm) (H : Sat (CtAt c 0 0 L * F) w)
    (hR : ∀ w', Sat (CtAt c 0 0 L * F) w' → Io w w' → R (.returned (.tuple #[.slice none 0 0, .int .i64 0])) w') :
    Calls Tryz.prog 24 #[.pointer (some ⟨c.tr, 0, none⟩), .string key, .string ub] w R := by
  have HH := Lib.hid hR
  have H1 := ((H.new (.cells #[.string ub] 9)).new (.cells #[.slice none 0 0] 48)).of_eq (show _ = CtAt c 0 0 L * (pts (w.heap.size + 1) (.cells #[.slice none 0 0] 48 (0, 0)) * (pts w.heap.size (.cells #[.string ub] 9) * F)) from by rw [heap_alloc]; ac_rfl)
  have I1 := ((Io.refl w).alloc (.cells #[.string ub] 9)).alloc (.cells #[.slice none 0 0] 48)
  clear hR
  go_enter Tryz.func24, Tryz.ntmps24
  go_upto_region 2 with fail
  generalize (w.alloc (.cells #[.string ub] 9)).alloc (.cells #[.slice none 0 0] 48) = w1 at *
  generalize w.heap.size = b at *
  go_upto_region 3 with (go_at_call 51; (with_reducible refine each_none key H1 ?_); intro w2 H4 I4)
  obtain ⟨z0, z1⟩ := nd1 H4.right
  go_wp2_with fail
  exact HH.out _ (H4.of_eq (show _ = (CtAt c 0 0 L * F) * (pts (b + 1) (.cells #[.slice none 0 0] 48 (0, 0)) * pts b (.cells #[.string ub] 9)) from by ac_rfl)).left (I1.trans I4)
/-- THE ENTRIES BETWEEN TWO KEYS. -/
theorem ctscan_any {es : List Ky.En} {q g : Nat} (key ub : Ky.Nm) (hgr : g ≤ 240) (hl : es.length ≤ 100000) (hub : ub.size ≤ 1000000) (H : Sat (TrAt c es q g * F) w)
    (hR : ∀ v w', Sat (RowE v (Tb.scan key ub es) * (TrAt c es q g * F)) w' → Io w w' → R (.returned (.tuple #[v, .int .i64 0])) w') :
    Calls Tryz.prog 24 #[.pointer (some ⟨c.tr, 0, none⟩), .string key, .string ub] w R := by
  obtain ⟨root, L, t, hq, H⟩ := sat_tr.1 H
  have back : ∀ {v : Value} {w' : World}, Tb.Tree root es L g → Sat (RowE v (Tb.scan key ub es) * (CtAt c root 0 L * F)) w' → Sat (RowE v (Tb.scan key ub es) * (TrAt c es q g * F)) w' := fun t h =>
    (sat_tr.2 ⟨root, L, t, hq, h.of_eq (show _ = CtAt c root 0 L * (RowE _ (Tb.scan key ub es) * F) from by ac_rfl)⟩).of_eq (by ac_rfl)
  rcases t with ⟨rfl, rfl, rfl⟩ | ⟨h, cc, s, hh⟩
  · exact scan_nothing key ub H fun w' H' I' => hR _ w' (back (.inl ⟨rfl, rfl, rfl⟩) (rowOf_nil (enc := encE) (sz := 2) (e := 50) H')) I'
  · have := s.pos
    exact scan_more s (by omega) hl hub H fun v w' H' I' => hR v w' (back (.inr ⟨h, cc, s, hh⟩) H') I'
end
end Go.Proofs.YtojiffhknddleaaGreatDoor

/-
  Rising lists of keys with values, as maps: who is in them, in what is put in and taken away, and between two keys. Plain. It proves no statement by itself.
-/
namespace Go.Proofs.YtojiffhknddleaaGreatDoor
open Go.RowKit Go.Lib
set_option linter.unusedSimpArgs false
set_option linter.unusedVariables false
theorem pw_ext {α : Type} {r : α → α → Prop} (irr : ∀ a, ¬ r a a) (tr : ∀ a b c, r a b → r b c → r a c) : ∀ {l m : List α}, l.Pairwise r → m.Pairwise r → (∀ x, x ∈ l ↔ x ∈ m) → l = m
  | [], [], _, _, _ => rfl
  | [], b :: m, _, _, h => absurd ((h b).2 (by simp)) (by simp)
  | a :: l, [], _, _, h => absurd ((h a).1 (by simp)) (by simp)
  | a :: l, b :: m, hl, hm, h => by
    obtain ⟨la, hl2⟩ := List.pairwise_cons.1 hl
    obtain ⟨mb, hm2⟩ := List.pairwise_cons.1 hm
    have e : a = b := by
      rcases List.mem_cons.1 ((h a).1 (by simp)) with e | e
      · exact e
      · rcases List.mem_cons.1 ((h b).2 (by simp)) with k | k
        · exact k.symm
        · exact absurd (tr _ _ _ (la b k) (mb a e)) (irr a)
    subst e
    have hh : ∀ x, x ∈ l ↔ x ∈ m := by
      intro x
      constructor
      · intro hx
        rcases List.mem_cons.1 ((h x).1 (List.mem_cons_of_mem _ hx)) with e | e
        · subst e; exact absurd (la _ hx) (irr _)
        · exact e
      · intro hx
        rcases List.mem_cons.1 ((h x).2 (List.mem_cons_of_mem _ hx)) with e | e
        · subst e; exact absurd (mb _ hx) (irr _)
        · exact e
    rw [pw_ext irr tr hl2 hm2 hh]
namespace Ky
theorem nlt_ne {x y : Nm} (h : Md.nlt x y = true) : x ≠ y := fun e => by rw [e, nlt_irrefl] at h; cases h
theorem put_nil (k v : Nm) : put [] k v = [(k, v)] := by simp [put, has, pos]
theorem put_one (k w v : Nm) : put [(k, w)] k v = [(k, v)] := by simp [put, has, pos, nlt_irrefl]
theorem del_nil (k : Nm) : del [] k = [] := by simp [del, has]
theorem del_one (k w : Nm) : del [(k, w)] k = [] := by simp [del, has, pos, nlt_irrefl]
theorem get_nil (k : Nm) : get [] k = none := by simp [get, has]
theorem get_one (k w : Nm) : get [(k, w)] k = some w := by simp [get, has, pos, nlt_irrefl]
theorem split_at {l : List En} (hr : Right l) (key : Nm) : ∃ E1 Ec E2, l = E1 ++ (Ec ++ E2) ∧ (∀ x ∈ E1, Md.nlt x.1 key = true) ∧ (∀ x ∈ E2, Md.nlt key x.1 = true) ∧ (Ec = [] ∨ ∃ v, Ec = [(key, v)]) := by
  have ha : ∀ x ∈ l.take (pos key l), Md.nlt x.1 key = true := by
    intro x hx
    obtain ⟨j, hj, rfl⟩ := List.getElem_of_mem hx
    rw [List.length_take] at hj
    rw [List.getElem_take]
    exact pos_ahead (by omega) (by omega)
  by_cases hh : has key l = true
  · obtain ⟨hl, hk⟩ := (has_iff hr).1 hh
    refine ⟨l.take (pos key l), [l[pos key l]], l.drop (pos key l + 1), ?_, ha, ?_, .inr ⟨(l[pos key l]).2, ?_⟩⟩
    · rw [List.singleton_append, ← List.drop_eq_getElem_cons hl, List.take_append_drop]
    · intro x hx
      obtain ⟨j, hj, rfl⟩ := List.getElem_of_mem hx
      rw [List.length_drop] at hj
      rw [List.getElem_drop]
      have := List.pairwise_iff_getElem.1 hr.2 (pos key l) (pos key l + 1 + j) hl (by omega) (by omega)
      rw [hk] at this
      exact this
    · have : l[pos key l] = ((l[pos key l]).1, (l[pos key l]).2) := rfl
      rw [hk] at this
      rw [this]
  · refine ⟨l.take (pos key l), [], l.drop (pos key l), ?_, ha, ?_, .inl rfl⟩
    · rw [List.nil_append, List.take_append_drop]
    · intro x hx
      have hx' := List.mem_of_mem_drop hx
      obtain ⟨j, hj, rfl⟩ := List.getElem_of_mem hx
      rw [List.length_drop] at hj
      rw [List.getElem_drop] at hx' ⊢
      have h1 := pos_behind (key := key) hr (j := pos key l + j) (by omega) (by omega)
      cases h2 : Md.nlt key (l[pos key l + j]).1 with
      | true => rfl
      | false =>
        have e := nlt_total h1 h2
        refine absurd ?_ hh
        unfold has
        rw [List.any_eq_true]
        exact ⟨_, hx', by simp [e]⟩
theorem mem_put {l : List En} {k v : Nm} {x : En} (hr : Right l) : x ∈ put l k v ↔ x = (k, v) ∨ (x ∈ l ∧ x.1 ≠ k) := by
  obtain ⟨E1, Ec, E2, rfl, h1, h2, h3⟩ := split_at hr k
  rw [Tb.put_loc h1 h2 hr]
  have hp : put Ec k v = [(k, v)] := by
    rcases h3 with rfl | ⟨w, rfl⟩
    · exact put_nil _ _
    · exact put_one _ _ _
  rw [hp]
  simp only [List.mem_append, List.mem_singleton]
  constructor
  · rintro (h | h | h)
    · exact .inr ⟨.inl h, nlt_ne (h1 x h)⟩
    · exact .inl h
    · exact .inr ⟨.inr (.inr h), (nlt_ne (h2 x h)).symm⟩
  · rintro (h | ⟨h | h | h, hne⟩)
    · exact .inr (.inl h)
    · exact .inl h
    · exfalso
      rcases h3 with rfl | ⟨w, rfl⟩
      · cases h
      · rw [List.mem_singleton] at h; exact hne (by rw [h])
    · exact .inr (.inr h)
theorem mem_del {l : List En} {k : Nm} {x : En} (hr : Right l) : x ∈ del l k ↔ x ∈ l ∧ x.1 ≠ k := by
  obtain ⟨E1, Ec, E2, rfl, h1, h2, h3⟩ := split_at hr k
  rw [Tb.del_loc h1 h2 hr]
  have hp : del Ec k = [] := by
    rcases h3 with rfl | ⟨w, rfl⟩
    · exact del_nil _
    · exact del_one _ _
  rw [hp]
  simp only [List.mem_append, List.nil_append]
  constructor
  · rintro (h | h)
    · exact ⟨.inl h, nlt_ne (h1 x h)⟩
    · exact ⟨.inr (.inr h), (nlt_ne (h2 x h)).symm⟩
  · rintro ⟨h | h | h, hne⟩
    · exact .inl h
    · exfalso
      rcases h3 with rfl | ⟨w, rfl⟩
      · cases h
      · rw [List.mem_singleton] at h; exact hne (by rw [h])
    · exact .inr h
theorem has_mem {l : List En} {k : Nm} : has k l = true ↔ ∃ v, (k, v) ∈ l := by
  unfold has
  rw [List.any_eq_true]
  constructor
  · rintro ⟨⟨a, b⟩, h, e⟩
    simp only [decide_eq_true_eq] at e
    exact ⟨b, e ▸ h⟩
  · rintro ⟨v, h⟩
    exact ⟨_, h, by simp⟩
theorem get_mem {l : List En} {k v : Nm} (hr : Right l) : get l k = some v ↔ (k, v) ∈ l := by
  obtain ⟨E1, Ec, E2, rfl, h1, h2, h3⟩ := split_at hr k
  rw [Tb.get_loc h1 h2 hr]
  simp only [List.mem_append]
  have n1 : (k, v) ∉ E1 := fun h => nlt_ne (h1 _ h) rfl
  have n2 : (k, v) ∉ E2 := fun h => nlt_ne (h2 _ h) rfl
  rcases h3 with rfl | ⟨w, rfl⟩
  · rw [get_nil]; simp [n1, n2]
  · rw [get_one]; simp [n1, n2, eq_comm]
theorem get_none {l : List En} {k : Nm} (hr : Right l) : get l k = none ↔ ∀ v, (k, v) ∉ l := by
  constructor
  · intro h v hv
    rw [(get_mem hr).2 hv] at h
    cases h
  · intro h
    cases e : get l k with
    | none => rfl
    | some v => exact absurd ((get_mem hr).1 e) (h v)
theorem right_ext {l m : List En} (hl : Right l) (hm : Right m) (h : ∀ x, x ∈ l ↔ x ∈ m) : l = m :=
  pw_ext (r := fun x y : En => Md.nlt x.1 y.1 = true) (fun a h => nlt_ne h rfl) (fun a b c h k => nlt_trans h k) hl.2 hm.2 h
theorem right_filter {l : List En} (hl : Right l) (p : En → Bool) : Right (l.filter p) := ⟨fun x hx => hl.1 x (List.mem_filter.1 hx).1, hl.2.filter p⟩
theorem right_tail {x : En} {l : List En} (h : Right (x :: l)) : Right l := ⟨fun y hy => h.1 y (by simp [hy]), (List.pairwise_cons.1 h.2).2⟩
theorem frm_filter {a : Nm} : ∀ {l : List En}, Right l → Tb.frm a l = l.filter fun x => !Md.nlt x.1 a
  | [], _ => by simp [Tb.frm]
  | x :: l, h => by
    have ih := frm_filter (a := a) (right_tail h)
    unfold Tb.frm pos at *
    rw [List.findIdx_cons]
    cases e : Md.nlt x.1 a with
    | true => simpa [e] using ih
    | false =>
      simp only [e, Bool.not_false, cond_true, List.drop_zero, List.filter_cons_of_pos]
      congr 1
      refine (List.filter_eq_self.2 fun y hy => ?_).symm
      have := (List.pairwise_cons.1 h.2).1 y hy
      cases k : Md.nlt y.1 a with
      | false => rfl
      | true => rw [nlt_trans this k] at e; cases e
theorem until_filter {b : Nm} : ∀ {l : List En}, Right l → l.takeWhile (Tb.under b) = l.filter (Tb.under b)
  | [], _ => rfl
  | x :: l, h => by
    have ih := until_filter (b := b) (right_tail h)
    cases e : Tb.under b x with
    | true => rw [List.takeWhile_cons_of_pos e, List.filter_cons_of_pos e, ih]
    | false =>
      rw [List.takeWhile_cons_of_neg (by rw [e]; simp), List.filter_cons_of_neg (by rw [e]; simp)]
      symm
      rw [List.filter_eq_nil_iff]
      intro y hy hu
      have := (List.pairwise_cons.1 h.2).1 y hy
      unfold Tb.under at e hu
      simp only [Bool.or_eq_false_iff, Bool.or_eq_true] at e hu
      rcases hu with hu | hu
      · rw [hu] at e; cases e.1
      · rw [nlt_trans this hu] at e; cases e.2
/-- BETWEEN TWO KEYS. -/
theorem scan_filter {a b : Nm} {l : List En} (hr : Right l) : Tb.scan a b l = l.filter fun x => !Md.nlt x.1 a && Tb.under b x := by
  rw [Tb.scan_eq, frm_filter hr, until_filter (right_filter hr _), List.filter_filter]
  congr 1
  funext x
  rw [Bool.and_comm]
theorem mem_scan {a b : Nm} {l : List En} {x : En} (hr : Right l) : x ∈ Tb.scan a b l ↔ x ∈ l ∧ Md.nlt x.1 a = false ∧ Tb.under b x = true := by
  rw [scan_filter hr, List.mem_filter]
  simp
theorem right_scan {a b : Nm} {l : List En} (hr : Right l) : Right (Tb.scan a b l) := by rw [scan_filter hr]; exact right_filter hr _
end Ky
end Go.Proofs.YtojiffhknddleaaGreatDoor

/-
  The document's Put of a key with a value, as its loop goes. Plain. It proves no statement by itself.
-/
namespace Go.Proofs.YtojiffhknddleaaGreatDoor
open Go.RowKit Go.Lib
set_option linter.unusedSimpArgs false
set_option linter.unusedVariables false
namespace Ky
/-- A step of the document's Put; what came, and whether the new one stands there. -/
def ist (key v : Nm) (s : List En × Bool) (x : En) : List En × Bool := if s.2 = false ∧ Md.nlt key x.1 = true then (s.1 ++ [(key, v)] ++ [x], true) else (s.1 ++ [x], s.2)
def ifin (key v : Nm) (s : List En × Bool) : List En := if s.2 = true then s.1 else s.1 ++ [(key, v)]
theorem ist_true (key v : Nm) : ∀ (l : List En) (o : List En), l.foldl (ist key v) (o, true) = (o ++ l, true)
  | [], o => by simp
  | x :: l, o => by
    have e : ist key v (o, true) x = (o ++ [x], true) := by simp [ist]
    rw [List.foldl_cons, e, ist_true key v l]
    simp
theorem ist_ahead (key v : Nm) : ∀ (l : List En) (o : List En), (∀ x ∈ l, Md.nlt key x.1 = false) → l.foldl (ist key v) (o, false) = (o ++ l, false)
  | [], o, _ => by simp
  | x :: l, o, h => by
    have e : ist key v (o, false) x = (o ++ [x], false) := by simp [ist, h x (by simp)]
    rw [List.foldl_cons, e, ist_ahead key v l _ fun y hy => h y (by simp [hy])]
    simp
theorem ist_behind (key v : Nm) (l : List En) (o : List En) (h : ∀ x ∈ l, Md.nlt key x.1 = true) : ifin key v (l.foldl (ist key v) (o, false)) = o ++ [(key, v)] ++ l := by
  cases l with
  | nil => simp [ifin]
  | cons x l =>
    have e : ist key v (o, false) x = (o ++ [(key, v)] ++ [x], true) := by simp [ist, h x (by simp)]
    rw [List.foldl_cons, e, ist_true]
    simp [ifin]
/-- THE DOCUMENT'S Put. -/
theorem put_doc {l : List En} (hr : Right l) (key v : Nm) : ifin key v ((l.filter fun x => decide (x.1 ≠ key)).foldl (ist key v) ([], false)) = put l key v := by
  obtain ⟨E1, Ec, E2, rfl, h1, h2, h3⟩ := split_at hr key
  rw [Tb.put_loc h1 h2 hr]
  have f1 : (E1.filter fun x => decide (x.1 ≠ key)) = E1 := List.filter_eq_self.2 fun x hx => by simpa using nlt_ne (h1 x hx)
  have f2 : (E2.filter fun x => decide (x.1 ≠ key)) = E2 := List.filter_eq_self.2 fun x hx => by simpa using (nlt_ne (h2 x hx)).symm
  have f3 : (Ec.filter fun x => decide (x.1 ≠ key)) = [] := by
    rcases h3 with rfl | ⟨w, rfl⟩
    · rfl
    · simp
  have hp : put Ec key v = [(key, v)] := by
    rcases h3 with rfl | ⟨w, rfl⟩
    · exact put_nil _ _
    · exact put_one _ _ _
  rw [List.filter_append, List.filter_append, f1, f2, f3, hp, List.nil_append, List.foldl_append, ist_ahead key v E1 [] fun x hx => nlt_asym (h1 x hx), List.nil_append, ist_behind key v E2 E1 h2, List.append_assoc]
end Ky
end Go.Proofs.YtojiffhknddleaaGreatDoor
