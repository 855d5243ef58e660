/-
  The document's lists of pairs: Put, by its walk. It proves no statement by itself.
-/
import Derived.Test.YtmacannchaalaaaE3A
namespace Go.Proofs.Ytmacannchaalaaa
open Go.RowKit
set_option linter.unusedSimpArgs false
set_option linter.unusedVariables false

section
variable {F : Asn} {w : World} {R : Ending → World → Prop} {l : List Pr} {v : Value}
theorem rhas_d (hv : ReadsP F v l) (p : Pr) {d : Bool} (hd : Hid (d = decide (p ∈ l))) (H : Sat F w) (h : ∀ w', Sat F w' → Io w w' → R (.returned (.bool d)) w') :
    Calls Try.prog 23 #[v, .agg #[.int .i64 p.1, .int .i64 p.2]] w R := rhas_any hv p H (by rw [← hd.out]; exact h)
theorem rless_d (a b : Pr) {d : Bool} (hd : Hid (d = Eg.less a b)) (H : Sat F w) (h : ∀ w', Sat F w' → Io w w' → R (.returned (.bool d)) w') :
    Calls Try.prog 19 #[.agg #[.int .i64 a.1, .int .i64 a.2], .agg #[.int .i64 b.1, .int .i64 b.2]] w R := rless_any a b H (by rw [← hd.out]; exact h)
set_option maxRecDepth 100000 in
set_option maxHeartbeats 2000000 in
theorem rputp_any (hv : ReadsP F v l) (hl : l.length ≤ 1000) (p : Pr) (H : Sat F w) (h : ∀ v' w', Sat (RowP v' (Eg.put l p) * F) w' → Io w w' → R (.returned v') w') :
    Calls Try.prog 48 #[v, .agg #[.int .i64 p.1, .int .i64 p.2]] w R := by
  obtain ⟨a, c, rfl, hm, _⟩ := id hv
  have HV := Lib.hid (fun k hk => readsP_get hv k hk)
  have hPF := fun G => Lib.hid (hv.with (G := G))
  have HH := Lib.hid h
  clear h hm
  obtain ⟨p1, p2⟩ := p
  have HP := H.new (.cells #[.int .i64 p1, .int .i64 p2] 25)
  have IP := (Io.refl w).alloc (.cells #[.int .i64 p1, .int .i64 p2] 25)
  obtain ⟨d0, hd0⟩ : ∃ d, d = decide ((p1, p2) ∈ l) := ⟨_, rfl⟩
  have HD := Lib.hid hd0
  clear hd0
  have q0 := Sat.read HP.left.at 0
  have q1 := Sat.read HP.left.at 1
  simp only [List.getElem?_toArray, List.getElem?_cons_zero, List.getElem?_cons_succ] at q0 q1
  go_enter Try.func48, Try.ntmps48
  go_wp2_with (go_at_call 23; with_reducible refine rhas_d (p := (p1, p2)) (hPF _).out HD HP ?_; intro w1 H1 I1)
  clear q0 q1
  generalize w.heap.size = bp at *
  have I1' := IP.trans I1
  clear IP I1 HP
  go_loopw [5, 6, 7] (fun y z x wr => ∃ (k : Nat) (o : List Pr) (d : Bool), k ≤ l.length ∧ x = .int .i64 (k : Int) ∧ z = .bool d ∧ Hid ((l.take k).foldl (Eg.pstep (p1, p2)) ([], d0) = (o, d)) ∧ Hid (o.length ≤ 1000000) ∧ Sat (RowP y o * (pts bp (.cells #[.int .i64 p1, .int .i64 p2] 25 (0, 0)) * F)) wr ∧ Io w wr) (fun _ _ x _ => l.length - (intOf x).toNat)
  case atStart => exact ⟨0, [], d0, by omega, rfl, rfl, Lib.hid rfl, Lib.hid (by simp), row_nilP H1, I1'⟩
  case round =>
    obtain ⟨k, o, d, hk, rfl, rfl, hs, ho, Hk, Ik⟩ := hrel
    clear H1 I1'
    by_cases hlt : k < l.length
    · have hlti : (k : Int) < (l.length : Int) := by omega
      obtain ⟨b, off, x1, x2, rfl, hx, hc⟩ := HV.out k hlt
      obtain ⟨c0, c1⟩ := hc wr Hk.right.right
      have q0 := Sat.read Hk.right.left.at 0
      have q1 := Sat.read Hk.right.left.at 1
      simp only [List.getElem?_toArray, List.getElem?_cons_zero, List.getElem?_cons_succ] at q0 q1
      have hs' : (l.take (k + 1)).foldl (Eg.pstep (p1, p2)) ([], d0) = Eg.pstep (p1, p2) (o, d) (x1, x2) := by rw [Eg.pfold_take _ _ _ _ hlt, hs.out, hx]
      have HC := Lib.hid hc
      obtain ⟨e, he⟩ : ∃ e, Hid (e = Eg.less (p1, p2) (x1, x2)) := ⟨_, Lib.hid rfl⟩
      have HS := Lib.hid hs'
      have ho' : Hid (o.length ≤ 1999) := by
        have := Eg.pfold_len (p1, p2) (l.take k) ([], d0)
        rw [hs.out, List.length_take] at this
        simp at this
        exact Lib.hid (by omega)
      clear hc hx hs' hs ho
      cases d with
      | true =>
        go_wp2_with fail
        go_quiet (fail)
        have Hn := fun n => Hk.drewN n
        have In := fun n => Ik.drewN n
        go_wp2_with (at_builtin; refine wpList_append_pair rfl (.tmp 31) (.tmp 36) rfl rfl (Hn _) (by have := ho'.out; omega) rfl rfl ?_; intro v3 w3 H3 I3)
        go_roundw
        case rel => exact ⟨k + 1, o ++ [(x1, x2)], true, by omega, by go_num, rfl, Lib.hid (HS.out.trans rfl), Lib.hid (by have := ho'.out; simp; omega), H3, (In _).trans I3⟩
        case measure => simp [intOf]; omega
      | false =>
        cases e with
        | true =>
          go_wp2_with fail
          go_region_held3 (fun V => V.cell? ⟨bp, 0, none⟩ = some (.int .i64 p1) ∧ V.cell? ⟨bp, 1, none⟩ = some (.int .i64 p2) ∧ V.cell? ⟨b, off + k * 2, none⟩ = some (.int .i64 x1) ∧ V.cell? ⟨b, off + k * 2 + 1, none⟩ = some (.int .i64 x2)) (first | exact ⟨q0, q1, c0, c1⟩ | exact ⟨z0, z1, z2⟩) ((go_at_call 19; with_reducible refine rless_d (p1, p2) (x1, x2) he Hk.drew ?_; intro w4 H4 I4; obtain ⟨z0, z1⟩ := box_cells H4.right; have z2 := HC.out w4 H4.right.right))
          obtain ⟨z2, z3⟩ := z2
          go_wp2_with (at_builtin; first | (refine wpList_append_pair rfl (.tmp 27) (.tmp 29) rfl rfl H4 (by have := ho'.out; omega) rfl rfl ?_; intro v3 w3 H3 I3; obtain ⟨y2, y3⟩ := HC.out w3 H3.right.right) | (refine wpList_append_pair rfl (.tmp 31) (.tmp 36) rfl rfl H3 (by have := ho'.out; simp; omega) rfl rfl ?_; intro v5 w5 H5 I5))
          go_roundw
          case rel => exact ⟨k + 1, o ++ [(p1, p2)] ++ [(x1, x2)], true, by omega, by go_num, rfl, Lib.hid (by rw [HS.out]; unfold Eg.pstep; rw [← he.out]; simp), Lib.hid (by have := ho'.out; simp; omega), H5, (((Ik.drew).trans I4).trans I3).trans I5⟩
          case measure => simp [intOf]; omega
        | false =>
          go_wp2_with fail
          go_region_held3 (fun V => V.cell? ⟨bp, 0, none⟩ = some (.int .i64 p1) ∧ V.cell? ⟨bp, 1, none⟩ = some (.int .i64 p2) ∧ V.cell? ⟨b, off + k * 2, none⟩ = some (.int .i64 x1) ∧ V.cell? ⟨b, off + k * 2 + 1, none⟩ = some (.int .i64 x2)) (first | exact ⟨q0, q1, c0, c1⟩ | exact ⟨z0, z1, z2⟩) ((go_at_call 19; with_reducible refine rless_d (p1, p2) (x1, x2) he Hk.drew ?_; intro w4 H4 I4; obtain ⟨z0, z1⟩ := box_cells H4.right; have z2 := HC.out w4 H4.right.right))
          obtain ⟨z2, z3⟩ := z2
          go_wp2_with (at_builtin; refine wpList_append_pair rfl (.tmp 31) (.tmp 36) rfl rfl H4 (by have := ho'.out; omega) rfl rfl ?_; intro v3 w3 H3 I3)
          go_roundw
          case rel => exact ⟨k + 1, o ++ [(x1, x2)], false, by omega, by go_num, rfl, Lib.hid (by rw [HS.out]; unfold Eg.pstep; rw [← he.out]; simp), Lib.hid (by have := ho'.out; simp; omega), H3, ((Ik.drew).trans I4).trans I3⟩
          case measure => simp [intOf]; omega
    · obtain rfl : k = l.length := by omega
      have hge : ¬ (l.length : Int) < (l.length : Int) := by omega
      have he : Hid (Eg.put l (p1, p2) = Eg.pend (p1, p2) (o, d)) := Lib.hid (by rw [Eg.put_fold, ← HD.out, ← hs.out, List.take_length])
      obtain ⟨q0, q1⟩ := box_cells Hk.right
      clear HV
      cases d with
      | true =>
        go_wp2_with fail
        refine HH.out _ _ ?_ Ik
        rw [he.out]
        exact Hk.mid
      | false =>
        go_wp2_with (at_builtin; refine wpList_append_pair rfl (.tmp 40) (.tmp 42) rfl rfl Hk ho.out rfl rfl ?_; intro v3 w3 H3 I3)
        refine HH.out _ _ ?_ (Ik.trans I3)
        rw [he.out]
        exact H3.mid
end
end Go.Proofs.Ytmacannchaalaaa
