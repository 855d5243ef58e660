/-
  The document's lists of pairs: Less, Has, by their walks. It proves no statement by itself.
-/
import Derived.Test.YthbbdicdcmjpiaaGreatDoorP34
import Derived.Test.YthbbdicdcmjpiaaGreatDoorP03
namespace Go.Proofs.YthbbdicdcmjpiaaGreatDoor
open Go.RowKit
set_option linter.unusedSimpArgs false
set_option linter.unusedVariables false

theorem readsP_at {F : Asn} {a : Option Addr} {n c : Nat} {l : List Pr} (hl : ReadsP F (.slice a n c) l) (k : Nat) (hk : k < l.length) : ∃ b off, a = some ⟨b, off, none⟩ ∧ ∀ w, Sat F w →
    w.cell? ⟨b, off + k * 2, none⟩ = some (.int .i64 l[k].1) ∧ w.cell? ⟨b, off + k * 2 + 1, none⟩ = some (.int .i64 l[k].2) := by
  obtain ⟨a', c', h1, _, h3⟩ := hl
  cases h1
  rcases h3 with rfl | ⟨b, off, e, h3⟩
  · simp at hk
  · refine ⟨b, off, e, fun w hw => ⟨?_, ?_⟩⟩
    · have := h3 w hw (2 * k) _ (pv_get0 l k hk)
      rwa [Nat.mul_comm 2 k] at this
    · have := h3 w hw (2 * k + 1) _ (pv_get1 l k hk)
      rwa [Nat.mul_comm 2 k, ← Nat.add_assoc] at this

section
variable {F : Asn} {w : World} {R : Ending → World → Prop} {l : List Pr} {v : Value}
set_option maxRecDepth 100000 in
set_option maxHeartbeats 1000000 in
theorem rhas_any (hv : ReadsP F v l) (p : Pr) (H : Sat F w) (h : ∀ w', Sat F w' → Io w w' → R (.returned (.bool (decide (p ∈ l)))) w') :
    Calls Tryz.prog 13 #[v, .agg #[.int .i64 p.1, .int .i64 p.2]] w R := by
  obtain ⟨a, c, rfl, hm, _⟩ := id hv
  have hm' : (l.length : Int) ≤ 9223372036854775807 := by omega
  have HV := Lib.hid (fun k hk => readsP_at hv k hk)
  have HH := Lib.hid h
  clear h hv hm
  obtain ⟨p1, p2⟩ := p
  have HP := H.new (.cells #[.int .i64 p1, .int .i64 p2] 35)
  have IP := (Io.refl w).alloc (.cells #[.int .i64 p1, .int .i64 p2] 35)
  go_enter Tryz.func13, Tryz.ntmps13
  go_wp2_with fail
  generalize w.alloc (.cells #[.int .i64 p1, .int .i64 p2] 35) = w0 at *
  generalize w.heap.size = bp at *
  go_loopw [5] (fun x wr => ∃ k : Nat, k ≤ l.length ∧ x = .int .i64 (k : Int) ∧ (p1, p2) ∉ l.take k ∧ Sat (pts bp (.cells #[.int .i64 p1, .int .i64 p2] 35 (0, 0)) * F) wr ∧ Io w wr) (fun x _ => l.length - (intOf x).toNat)
  case atStart => exact ⟨0, by omega, rfl, by simp, HP, IP⟩
  case round =>
    obtain ⟨k, hk, rfl, hn, Hk, Ik⟩ := hrel
    clear HP IP
    have HN := Lib.hid hn
    clear hn
    by_cases hlt : k < l.length
    · have hlti : (k : Int) < (l.length : Int) := by omega
      obtain ⟨b, off, rfl, hc⟩ := HV.out k hlt
      obtain ⟨c0, c1⟩ := hc wr Hk.right
      have q0 := Sat.read Hk.left.at 0
      have q1 := Sat.read Hk.left.at 1
      have lq := Hk.left.lt
      simp only [List.getElem?_toArray, List.getElem?_cons_zero, List.getElem?_cons_succ] at q0 q1
      obtain ⟨x, hx⟩ : ∃ x, x = l[k] := ⟨_, rfl⟩
      rw [← hx] at c0 c1
      have HX := Lib.hid hx
      have EQ := fun W => eql_pair x (p1, p2) W
      obtain ⟨x1, x2⟩ := x
      obtain ⟨eq, heq⟩ : ∃ e, e = decide ((x1, x2) = (p1, p2)) := ⟨_, rfl⟩
      rw [← heq] at EQ
      have HE := Lib.hid heq
      clear hc hx heq
      simp only at EQ c0 c1
      cases eq with
      | true =>
        have hin : (p1, p2) ∈ l := by
          have := of_decide_eq_true HE.out.symm
          rw [← this, HX.out]
          exact List.getElem_mem hlt
        have fin := fun n => HH.out (wr.drewN n) (Hk.right.drewN n) (Ik.drewN n)
        simp only [hin, decide_true] at fin
        clear HH HE HX hin
        go_wp2_with fail
        go_quiet (fail)
        go_wp2_with fail
        exact fin _
      | false =>
        have hnx : (p1, p2) ∉ l.take (k + 1) := by
          rw [List.take_succ_eq_append_getElem hlt, List.mem_append, List.mem_singleton, ← HX.out]
          rintro (h | h)
          · exact HN.out h
          · exact of_decide_eq_false HE.out.symm h.symm
        have HNX := Lib.hid hnx
        clear hnx HE HX
        go_wp2_with fail
        go_quiet (fail)
        go_wp2_with fail
        go_roundw
        case rel => exact ⟨k + 1, by omega, by go_num, HNX.out, Hk.drewN _, Ik.drewN _⟩
        case measure => simp [intOf]; omega
    · obtain rfl : k = l.length := by omega
      have hge : ¬ (l.length : Int) < (l.length : Int) := by omega
      have fin := HH.out wr Hk.right Ik
      have hn := HN.out
      rw [List.take_length] at hn
      simp only [hn, decide_false] at fin
      clear HH HN hn HV
      go_wp2_with fail
      exact fin

set_option maxRecDepth 100000 in
theorem rless_any (a b : Pr) (H : Sat F w) (h : ∀ w', Sat F w' → Io w w' → R (.returned (.bool (Eg.less a b))) w') :
    Calls Tryz.prog 66 #[.agg #[.int .i64 a.1, .int .i64 a.2], .agg #[.int .i64 b.1, .int .i64 b.2]] w R := by
  obtain ⟨a1, a2⟩ := a
  obtain ⟨b1, b2⟩ := b
  have fin := h _ ((H.new (.cells #[.int .i64 a1, .int .i64 a2] 35)).new (.cells #[.int .i64 b1, .int .i64 b2] 35)).right.right (((Io.refl w).alloc _).alloc _)
  have e : Eg.less (a1, a2) (b1, b2) = (decide (a1 < b1) || (a1 == b1 && decide (a2 < b2))) := rfl
  rw [e] at fin
  clear h H e
  by_cases h1 : a1 < b1
  · have d1 : decide (a1 < b1) = true := by simpa using h1
    simp only [d1, Bool.true_or] at fin
    go_enter Tryz.func66, Tryz.ntmps66
    go_wp2_with fail
    exact fin
  · have d1 : decide (a1 < b1) = false := by simpa using h1
    by_cases h2 : a1 = b1
    · subst h2
      have d2 : (a1 == a1) = true := by simp
      by_cases h3 : a2 < b2
      · have d3 : decide (a2 < b2) = true := by simpa using h3
        simp only [d1, d2, d3, Bool.false_or, Bool.true_and] at fin
        go_enter Tryz.func66, Tryz.ntmps66
        go_wp2_with fail
        exact fin
      · have d3 : decide (a2 < b2) = false := by simpa using h3
        simp only [d1, d2, d3, Bool.false_or, Bool.true_and] at fin
        go_enter Tryz.func66, Tryz.ntmps66
        go_wp2_with fail
        exact fin
    · have d2 : (a1 == b1) = false := by simpa using h2
      simp only [d1, d2, Bool.false_or, Bool.false_and] at fin
      go_enter Tryz.func66, Tryz.ntmps66
      go_wp2_with fail
      exact fin
end
end Go.Proofs.YthbbdicdcmjpiaaGreatDoor

/-
  Rows of pairs: a row reads as its pairs; append of one pair, of a row of pairs. It proves no statement by itself.
-/
namespace Go.Proofs.YthbbdicdcmjpiaaGreatDoor
open Go.RowKit
set_option linter.unusedSimpArgs false
set_option linter.unusedVariables false

/-- A row of pairs that is owned. -/
abbrev RowP (v : Value) (l : List Pr) : Asn := Row 35 2 v l.length (pv l)

theorem readsP_row {F : Asn} {w : World} {v : Value} {l : List Pr} (H : Sat (RowP v l * F) w) (hl : l.length ≤ 1000000) : ReadsP (RowP v l * F) v l := by
  obtain ⟨hx, ⟨rfl, h0, _⟩ | ⟨g, cap, cur, rfl, h2, h3, h4, h5, _⟩⟩ := sat_row.1 H
  · have : l = [] := List.eq_nil_of_length_eq_zero h0
    subst this
    exact ⟨none, 0, rfl, by simp, .inl rfl⟩
  · refine ⟨some ⟨g, 0, none⟩, cap, rfl, by omega, .inr ⟨g, 0, rfl, fun w' hw' j u hu => ?_⟩⟩
    obtain ⟨_, ⟨h0, _⟩ | ⟨g', cap', cur', e1, e2, e3, e4, e5, h⟩⟩ := sat_row.1 hw'
    · cases h0
    · cases e1
      rw [Nat.zero_add, Sat.read h.left.at j]
      have hj : j < (pv l).length := (List.getElem?_eq_some_iff.1 hu).1
      rw [← e5, List.length_take] at hj
      rw [← e5, List.getElem?_take_of_lt (by omega), Array.getElem?_toList] at hu
      exact hu
theorem readsP_get {F : Asn} {a : Option Addr} {n c : Nat} {l : List Pr} (hl : ReadsP F (.slice a n c) l) (k : Nat) (hk : k < l.length) : ∃ b off x1 x2, a = some ⟨b, off, none⟩ ∧ l[k] = (x1, x2) ∧ ∀ w, Sat F w →
    w.cell? ⟨b, off + k * 2, none⟩ = some (.int .i64 x1) ∧ w.cell? ⟨b, off + k * 2 + 1, none⟩ = some (.int .i64 x2) := by
  obtain ⟨b, off, h1, h2⟩ := readsP_at hl k hk
  exact ⟨b, off, _, _, h1, rfl, h2⟩
theorem Sat.mid {A B C : Asn} {w : World} (h : Sat (A * (B * C)) w) : Sat (A * C) w := (h.of_eq (show A * (B * C) = B * (A * C) from by ac_rfl)).right
theorem box_cells {x y : Value} {t : TypeId} {b : Nat} {R : Asn} {w : World} (H : Sat (pts b (.cells #[x, y] t (0, 0)) * R) w) : w.cell? ⟨b, 0, none⟩ = some x ∧ w.cell? ⟨b, 1, none⟩ = some y := ⟨Sat.read H.left.at 0, Sat.read H.left.at 1⟩
theorem row_nilP {F : Asn} {w : World} (H : Sat F w) : Sat (RowP (.slice none 0 0) [] * F) w := row_nil _ _ _ _ H

section
variable {R : Asn} {w : World} {ops : Array Oper} {rest : List Oper} {o : Oper} {a : Act} {Q : Exit → Act → World → Prop}
/-- append of one pair that has just been laid in a block of its own. -/
theorem wpList_append_pair (hgd : o.guard = none) (s x : Operand) (ho : o.op = .call { callee := .builtin .append, args := #[s, x], argTypes := #[29, 29] })
    {v : Value} {l : List Pr} (hs : a.eval s = v) (H : Sat (RowP v l * R) w) (hl : l.length ≤ 1000000) {b c : Nat} {x1 x2 : Int} (hx : a.eval x = .slice (some ⟨b, 0, none⟩) 1 c) (hb : b = w.heap.size)
    (h : ∀ v' w', Sat (RowP v' (l ++ [(x1, x2)]) * R) w' → Io w w' → wpList Tryz.prog ops Q rest (a.put o.dst v') w') :
    wpList Tryz.prog ops Q (o :: rest) a (w.alloc (.cells #[.int .i64 x1, .int .i64 x2] 35)) := by
  obtain ⟨i0, hi, hz0, hz1, hz2⟩ := info_parts Tryz.info35
  refine wpList_append_new hgd s x 29 ho 35 Tryz.underlying29 hi hz0 hz1 hz2 rfl hs H 1 c [.int .i64 x1, .int .i64 x2] hx hb rfl rfl (by omega) (by omega) (by omega) ?_
  intro g c' w' H' I'
  refine h _ w' (H'.of_eq ?_) I'
  unfold RowP
  rw [show (l ++ [(x1, x2)]).length = l.length + 1 from by simp, pv_append]
  rfl
end
end Go.Proofs.YthbbdicdcmjpiaaGreatDoor

/-
  The document's lists of pairs: Put, by its walk. It proves no statement by itself.
-/
namespace Go.Proofs.YthbbdicdcmjpiaaGreatDoor
open Go.RowKit
set_option linter.unusedSimpArgs false
set_option linter.unusedVariables false

section
variable {F : Asn} {w : World} {R : Ending → World → Prop} {l : List Pr} {v : Value}
theorem rhas_d (hv : ReadsP F v l) (p : Pr) {d : Bool} (hd : Hid (d = decide (p ∈ l))) (H : Sat F w) (h : ∀ w', Sat F w' → Io w w' → R (.returned (.bool d)) w') :
    Calls Tryz.prog 13 #[v, .agg #[.int .i64 p.1, .int .i64 p.2]] w R := rhas_any hv p H (by rw [← hd.out]; exact h)
theorem rless_d (a b : Pr) {d : Bool} (hd : Hid (d = Eg.less a b)) (H : Sat F w) (h : ∀ w', Sat F w' → Io w w' → R (.returned (.bool d)) w') :
    Calls Tryz.prog 66 #[.agg #[.int .i64 a.1, .int .i64 a.2], .agg #[.int .i64 b.1, .int .i64 b.2]] w R := rless_any a b H (by rw [← hd.out]; exact h)
set_option maxRecDepth 100000 in
set_option maxHeartbeats 2000000 in
theorem rputp_any (hv : ReadsP F v l) (hl : l.length ≤ 1000) (p : Pr) (H : Sat F w) (h : ∀ v' w', Sat (RowP v' (Eg.put l p) * F) w' → Io w w' → R (.returned v') w') :
    Calls Tryz.prog 41 #[v, .agg #[.int .i64 p.1, .int .i64 p.2]] w R := by
  obtain ⟨a, c, rfl, hm, _⟩ := id hv
  have HV := Lib.hid (fun k hk => readsP_get hv k hk)
  have hPF := fun G => Lib.hid (hv.with (G := G))
  have HH := Lib.hid h
  clear h hm
  obtain ⟨p1, p2⟩ := p
  have HP := H.new (.cells #[.int .i64 p1, .int .i64 p2] 35)
  have IP := (Io.refl w).alloc (.cells #[.int .i64 p1, .int .i64 p2] 35)
  obtain ⟨d0, hd0⟩ : ∃ d, d = decide ((p1, p2) ∈ l) := ⟨_, rfl⟩
  have HD := Lib.hid hd0
  clear hd0
  have q0 := Sat.read HP.left.at 0
  have q1 := Sat.read HP.left.at 1
  simp only [List.getElem?_toArray, List.getElem?_cons_zero, List.getElem?_cons_succ] at q0 q1
  go_enter Tryz.func41, Tryz.ntmps41
  go_wp2_with (go_at_call 13; with_reducible refine rhas_d (p := (p1, p2)) (hPF _).out HD HP ?_; intro w1 H1 I1)
  clear q0 q1
  generalize w.heap.size = bp at *
  have I1' := IP.trans I1
  clear IP I1 HP
  go_loopw [5, 6, 7] (fun y z x wr => ∃ (k : Nat) (o : List Pr) (d : Bool), k ≤ l.length ∧ x = .int .i64 (k : Int) ∧ z = .bool d ∧ Hid ((l.take k).foldl (Eg.pstep (p1, p2)) ([], d0) = (o, d)) ∧ Hid (o.length ≤ 1000000) ∧ Sat (RowP y o * (pts bp (.cells #[.int .i64 p1, .int .i64 p2] 35 (0, 0)) * F)) wr ∧ Io w wr) (fun _ _ x _ => l.length - (intOf x).toNat)
  case atStart => exact ⟨0, [], d0, by omega, rfl, rfl, Lib.hid rfl, Lib.hid (by simp), row_nilP H1, I1'⟩
  case round =>
    obtain ⟨k, o, d, hk, rfl, rfl, hs, ho, Hk, Ik⟩ := hrel
    clear H1 I1'
    by_cases hlt : k < l.length
    · have hlti : (k : Int) < (l.length : Int) := by omega
      obtain ⟨b, off, x1, x2, rfl, hx, hc⟩ := HV.out k hlt
      obtain ⟨c0, c1⟩ := hc wr Hk.right.right
      have q0 := Sat.read Hk.right.left.at 0
      have q1 := Sat.read Hk.right.left.at 1
      simp only [List.getElem?_toArray, List.getElem?_cons_zero, List.getElem?_cons_succ] at q0 q1
      have hs' : (l.take (k + 1)).foldl (Eg.pstep (p1, p2)) ([], d0) = Eg.pstep (p1, p2) (o, d) (x1, x2) := by rw [Eg.pfold_take _ _ _ _ hlt, hs.out, hx]
      have HC := Lib.hid hc
      obtain ⟨e, he⟩ : ∃ e, Hid (e = Eg.less (p1, p2) (x1, x2)) := ⟨_, Lib.hid rfl⟩
      have HS := Lib.hid hs'
      have ho' : Hid (o.length ≤ 1999) := by
        have := Eg.pfold_len (p1, p2) (l.take k) ([], d0)
        rw [hs.out, List.length_take] at this
        simp at this
        exact Lib.hid (by omega)
      clear hc hx hs' hs ho
      cases d with
      | true =>
        go_wp2_with fail
        go_quiet (fail)
        have Hn := fun n => Hk.drewN n
        have In := fun n => Ik.drewN n
        go_wp2_with (at_builtin; refine wpList_append_pair rfl (.tmp 31) (.tmp 36) rfl rfl (Hn _) (by have := ho'.out; omega) rfl rfl ?_; intro v3 w3 H3 I3)
        go_roundw
        case rel => exact ⟨k + 1, o ++ [(x1, x2)], true, by omega, by go_num, rfl, Lib.hid (HS.out.trans rfl), Lib.hid (by have := ho'.out; simp; omega), H3, (In _).trans I3⟩
        case measure => simp [intOf]; omega
      | false =>
        cases e with
        | true =>
          go_wp2_with fail
          go_region_held3 (fun V => V.cell? ⟨bp, 0, none⟩ = some (.int .i64 p1) ∧ V.cell? ⟨bp, 1, none⟩ = some (.int .i64 p2) ∧ V.cell? ⟨b, off + k * 2, none⟩ = some (.int .i64 x1) ∧ V.cell? ⟨b, off + k * 2 + 1, none⟩ = some (.int .i64 x2)) (first | exact ⟨q0, q1, c0, c1⟩ | exact ⟨z0, z1, z2⟩) ((go_at_call 66; with_reducible refine rless_d (p1, p2) (x1, x2) he Hk.drew ?_; intro w4 H4 I4; obtain ⟨z0, z1⟩ := box_cells H4.right; have z2 := HC.out w4 H4.right.right))
          obtain ⟨z2, z3⟩ := z2
          go_wp2_with (at_builtin; first | (refine wpList_append_pair rfl (.tmp 27) (.tmp 29) rfl rfl H4 (by have := ho'.out; omega) rfl rfl ?_; intro v3 w3 H3 I3; obtain ⟨y2, y3⟩ := HC.out w3 H3.right.right) | (refine wpList_append_pair rfl (.tmp 31) (.tmp 36) rfl rfl H3 (by have := ho'.out; simp; omega) rfl rfl ?_; intro v5 w5 H5 I5))
          go_roundw
          case rel => exact ⟨k + 1, o ++ [(p1, p2)] ++ [(x1, x2)], true, by omega, by go_num, rfl, Lib.hid (by rw [HS.out]; unfold Eg.pstep; rw [← he.out]; simp), Lib.hid (by have := ho'.out; simp; omega), H5, (((Ik.drew).trans I4).trans I3).trans I5⟩
          case measure => simp [intOf]; omega
        | false =>
          go_wp2_with fail
          go_region_held3 (fun V => V.cell? ⟨bp, 0, none⟩ = some (.int .i64 p1) ∧ V.cell? ⟨bp, 1, none⟩ = some (.int .i64 p2) ∧ V.cell? ⟨b, off + k * 2, none⟩ = some (.int .i64 x1) ∧ V.cell? ⟨b, off + k * 2 + 1, none⟩ = some (.int .i64 x2)) (first | exact ⟨q0, q1, c0, c1⟩ | exact ⟨z0, z1, z2⟩) ((go_at_call 66; with_reducible refine rless_d (p1, p2) (x1, x2) he Hk.drew ?_; intro w4 H4 I4; obtain ⟨z0, z1⟩ := box_cells H4.right; have z2 := HC.out w4 H4.right.right))
          obtain ⟨z2, z3⟩ := z2
          go_wp2_with (at_builtin; refine wpList_append_pair rfl (.tmp 31) (.tmp 36) rfl rfl H4 (by have := ho'.out; omega) rfl rfl ?_; intro v3 w3 H3 I3)
          go_roundw
          case rel => exact ⟨k + 1, o ++ [(x1, x2)], false, by omega, by go_num, rfl, Lib.hid (by rw [HS.out]; unfold Eg.pstep; rw [← he.out]; simp), Lib.hid (by have := ho'.out; simp; omega), H3, ((Ik.drew).trans I4).trans I3⟩
          case measure => simp [intOf]; omega
    · obtain rfl : k = l.length := by omega
      have hge : ¬ (l.length : Int) < (l.length : Int) := by omega
      have he : Hid (Eg.put l (p1, p2) = Eg.pend (p1, p2) (o, d)) := Lib.hid (by rw [Eg.put_fold, ← HD.out, ← hs.out, List.take_length])
      obtain ⟨q0, q1⟩ := box_cells Hk.right
      clear HV
      cases d with
      | true =>
        go_wp2_with fail
        refine HH.out _ _ ?_ Ik
        rw [he.out]
        exact Hk.mid
      | false =>
        go_wp2_with (at_builtin; refine wpList_append_pair rfl (.tmp 40) (.tmp 42) rfl rfl Hk ho.out rfl rfl ?_; intro v3 w3 H3 I3)
        refine HH.out _ _ ?_ (Ik.trans I3)
        rw [he.out]
        exact H3.mid
end
end Go.Proofs.YthbbdicdcmjpiaaGreatDoor

/-
  The document's lists of pairs: Sort, Without, Same, by their walks. It proves no statement by itself.
-/
namespace Go.Proofs.YthbbdicdcmjpiaaGreatDoor
open Go.RowKit
set_option linter.unusedSimpArgs false
set_option linter.unusedVariables false

/-- `!=` at a pair. -/
theorem neq_pair (x y : Pr) (w : World) : (binOp .neq 35 (.agg #[.int .i64 x.1, .int .i64 x.2]) (.agg #[.int .i64 y.1, .int .i64 y.2])).run Tryz.prog w = .ok (.bool (!decide (x = y))) w := by
  have h := eql_pair x y w
  rw [run_eql_struct] at h
  rw [run_neq_struct]
  cases hr : (Op.equalIn 10000 35 (.agg #[.int .i64 x.1, .int .i64 x.2]) (.agg #[.int .i64 y.1, .int .i64 y.2])).run Tryz.prog w with
  | ok b w' =>
    rw [hr] at h
    simp only [Result.andThen_ok] at h ⊢
    cases h
    rfl
  | _ => rw [hr] at h; cases h
theorem readsP_len {F : Asn} {v : Value} {l : List Pr} (h : ReadsP F v l) : ∃ a c, v = .slice a l.length c ∧ (l.length : Int) ≤ 9223372036854775807 := by
  obtain ⟨a, c, h1, h2, _⟩ := h
  exact ⟨a, c, h1, by omega⟩

namespace Eg
theorem put_len (l : List Pr) (p : Pr) : (put l p).length ≤ l.length + 1 := by
  have ins_len : ∀ l : List Pr, (ins p l).length = l.length + 1 := by
    intro l
    induction l with
    | nil => rfl
    | cons q l ih =>
      unfold ins
      split
      · rfl
      · simp [ih]
  unfold put
  split
  · omega
  · rw [ins_len]; omega
theorem without_take (l : List Pr) (p : Pr) (k : Nat) (hk : k < l.length) : without (l.take (k + 1)) p = if l[k] = p then without (l.take k) p else without (l.take k) p ++ [l[k]] := by
  unfold without
  rw [List.take_succ_eq_append_getElem hk, List.filter_append]
  by_cases h : l[k] = p <;> simp [h]
theorem without_len (l : List Pr) (p : Pr) : (without l p).length ≤ l.length := List.length_filter_le _ _
end Eg

section
variable {F : Asn} {w : World} {R : Ending → World → Prop} {l m : List Pr} {v u : Value}
set_option maxRecDepth 100000 in
set_option maxHeartbeats 2000000 in
theorem rwithout_any (hv : ReadsP F v l) (hl : l.length ≤ 1000) (p : Pr) (H : Sat F w) (h : ∀ v' w', Sat (RowP v' (Eg.without l p) * F) w' → Io w w' → R (.returned v') w') :
    Calls Tryz.prog 42 #[v, .agg #[.int .i64 p.1, .int .i64 p.2]] w R := by
  obtain ⟨a, c, rfl, hm⟩ := readsP_len hv
  have HV := Lib.hid (fun k hk => readsP_get hv k hk)
  have HH := Lib.hid h
  clear h hv
  obtain ⟨p1, p2⟩ := p
  have HP := H.new (.cells #[.int .i64 p1, .int .i64 p2] 35)
  have IP := (Io.refl w).alloc (.cells #[.int .i64 p1, .int .i64 p2] 35)
  go_enter Tryz.func42, Tryz.ntmps42
  go_wp2_with fail
  generalize w.alloc (.cells #[.int .i64 p1, .int .i64 p2] 35) = w0 at *
  generalize w.heap.size = bp at *
  go_loopw [5, 6] (fun y x wr => ∃ (k : Nat) (o : List Pr), k ≤ l.length ∧ x = .int .i64 (k : Int) ∧ Hid (Eg.without (l.take k) (p1, p2) = o) ∧ Sat (RowP y o * (pts bp (.cells #[.int .i64 p1, .int .i64 p2] 35 (0, 0)) * F)) wr ∧ Io w wr) (fun _ x _ => l.length - (intOf x).toNat)
  case atStart => exact ⟨0, [], by omega, rfl, Lib.hid rfl, row_nilP HP, IP⟩
  case round =>
    obtain ⟨k, o, hk, rfl, hs, Hk, Ik⟩ := hrel
    clear HP IP
    by_cases hlt : k < l.length
    · have hlti : (k : Int) < (l.length : Int) := by omega
      obtain ⟨b, off, x1, x2, rfl, hx, hc⟩ := HV.out k hlt
      have Hn := fun n => Hk.drewN n
      have In := fun n => Ik.drewN n
      obtain ⟨q0, q1⟩ := box_cells Hk.right
      obtain ⟨c0, c1⟩ := hc wr Hk.right.right
      have EQ := fun W => neq_pair (x1, x2) (p1, p2) W
      obtain ⟨eq, heq⟩ : ∃ e, e = decide ((x1, x2) = (p1, p2)) := ⟨_, rfl⟩
      rw [← heq] at EQ
      have ol : o.length ≤ 1000 := by
        have := Eg.without_len (l.take k) (p1, p2)
        rw [hs.out, List.length_take] at this
        omega
      have hw := Eg.without_take l (p1, p2) k hlt
      rw [hs.out, hx] at hw
      have HS := Lib.hid hw
      have OL := Lib.hid ol
      have HE := Lib.hid heq
      clear hc hx hs ol hw heq
      simp only at EQ
      cases eq with
      | true =>
        have HS' : Hid (Eg.without (l.take (k + 1)) (p1, p2) = o) := Lib.hid (by rw [HS.out, if_pos (of_decide_eq_true HE.out.symm)])
        simp only [Bool.not_true] at EQ
        clear HE HS
        go_wp2_with fail
        go_quiet (fail)
        go_wp2_with fail
        go_roundw
        case rel => exact ⟨k + 1, o, by omega, by go_num, HS', Hn _, In _⟩
        case measure => simp [intOf]; omega
      | false =>
        have HS' : Hid (Eg.without (l.take (k + 1)) (p1, p2) = o ++ [(x1, x2)]) := Lib.hid (by rw [HS.out, if_neg (of_decide_eq_false HE.out.symm)])
        simp only [Bool.not_false] at EQ
        clear HE HS
        go_wp2_with fail
        go_quiet (fail)
        go_wp2_with (at_builtin; refine wpList_append_pair rfl (.tmp 19) (.tmp 24) rfl rfl (Hn _) (by have := OL.out; omega) rfl rfl ?_; intro v3 w3 H3 I3)
        go_roundw
        case rel => exact ⟨k + 1, o ++ [(x1, x2)], by omega, by go_num, HS', H3, (In _).trans I3⟩
        case measure => simp [intOf]; omega
    · obtain rfl : k = l.length := by omega
      have hge : ¬ (l.length : Int) < (l.length : Int) := by omega
      have he : Hid (Eg.without l (p1, p2) = o) := Lib.hid (by rw [← hs.out, List.take_length])
      clear HV
      go_wp2_with fail
      refine HH.out _ _ ?_ Ik
      rw [he.out]
      exact Hk.mid
set_option maxRecDepth 100000 in
set_option maxHeartbeats 2000000 in
theorem rsame_any (hv : ReadsP F v l) (hu : ReadsP F u m) {d : Bool} (hd : Hid (d = decide (l = m))) (H : Sat F w) (h : ∀ w', Sat F w' → Io w w' → R (.returned (.bool d)) w') :
    Calls Tryz.prog 18 #[v, u] w R := by
  obtain ⟨a, c, rfl, hm⟩ := readsP_len hv
  obtain ⟨a', c', rfl, hm'⟩ := readsP_len hu
  have HV := Lib.hid (fun k hk => readsP_get hv k hk)
  have HU := Lib.hid (fun k hk => readsP_get hu k hk)
  have HH := Lib.hid h
  clear h hv hu
  by_cases hn : l.length = m.length
  · go_enter Tryz.func18, Tryz.ntmps18
    go_wp2_with fail
    go_loopw [5] (fun x wr => ∃ (k : Nat), k ≤ l.length ∧ x = .int .i64 (k : Int) ∧ Hid (l.take k = m.take k) ∧ Sat F wr ∧ Io w wr) (fun x _ => l.length - (intOf x).toNat)
    case atStart => exact ⟨0, by omega, rfl, Lib.hid rfl, H, Io.refl _⟩
    case round =>
      obtain ⟨k, hk, rfl, hs, Hk, Ik⟩ := hrel
      by_cases hlt : k < l.length
      · have hlti : (k : Int) < (l.length : Int) := by omega
        have hltm : (k : Int) < (m.length : Int) := by omega
        obtain ⟨b, off, x1, x2, rfl, hx, hc⟩ := HV.out k hlt
        obtain ⟨b', off', y1, y2, rfl, hy, hc'⟩ := HU.out k (by omega)
        have Hn := fun n => Hk.drewN n
        have In := fun n => Ik.drewN n
        obtain ⟨c0, c1⟩ := hc wr Hk
        obtain ⟨e0, e1⟩ := hc' wr Hk
        have EQ := fun W => neq_pair (x1, x2) (y1, y2) W
        obtain ⟨eq, heq⟩ : ∃ e, e = decide ((x1, x2) = (y1, y2)) := ⟨_, rfl⟩
        rw [← heq] at EQ
        have HE : Hid (eq = decide (l[k] = m[k]'(by omega))) := Lib.hid (by rw [heq, hx, hy])
        clear hc hc' hx hy heq
        simp only at EQ
        cases eq with
        | true =>
          have HS' : Hid (l.take (k + 1) = m.take (k + 1)) := Lib.hid (by rw [List.take_succ_eq_append_getElem hlt, List.take_succ_eq_append_getElem (by omega), hs.out, of_decide_eq_true HE.out.symm])
          simp only [Bool.not_true] at EQ
          clear HE hs
          go_wp2_with fail
          go_quiet (fail)
          go_wp2_with fail
          go_roundw
          case rel => exact ⟨k + 1, by omega, by go_num, HS', Hn _, In _⟩
          case measure => simp [intOf]; omega
        | false =>
          have fin := fun n => HH.out _ (Hn n) (In n)
          have hne : d = false := by
            rw [hd.out]
            refine decide_eq_false ?_
            rintro rfl
            exact of_decide_eq_false HE.out.symm rfl
          subst hne
          simp only [Bool.not_false] at EQ
          clear HE hs HH
          go_wp2_with fail
          go_quiet (fail)
          go_wp2_with fail
          exact fin _
      · obtain rfl : k = l.length := by omega
        have hge : ¬ (l.length : Int) < (l.length : Int) := by omega
        have he : d = true := by
          rw [hd.out]
          refine decide_eq_true ?_
          have := hs.out
          rwa [List.take_length, hn, List.take_length] at this
        subst he
        clear HV HU
        go_wp2_with fail
        exact HH.out _ Hk Ik
  · have hni : ¬ (l.length : Int) = (m.length : Int) := by omega
    have he : d = false := by
      rw [hd.out]
      refine decide_eq_false ?_
      rintro rfl
      exact hn rfl
    subst he
    have HN := Lib.hid hn
    have hq : ((l.length : Int) != (m.length : Int)) = true := by rw [bne_iff_ne]; exact hni
    clear HV HU hn hni
    go_enter Tryz.func18, Tryz.ntmps18
    go_wp2_with fail
    exact HH.out _ H (Io.refl _)
end
end Go.Proofs.YthbbdicdcmjpiaaGreatDoor
