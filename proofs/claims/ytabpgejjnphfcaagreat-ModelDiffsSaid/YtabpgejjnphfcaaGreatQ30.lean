/-
  Rows of changes; the document's Diff, Apply, SameChanges, by their walks. It proves no statement by itself.
-/
import Derived.Test.YtabpgejjnphfcaaGreatQ14
namespace Go.Proofs.YtabpgejjnphfcaaGreat
open Go.RowKit
set_option linter.unusedSimpArgs false
set_option linter.unusedVariables false

theorem neq_change (x y : Ch) (w : World) : (binOp .neq 51 (.agg #[.int .i64 x.1.1, .int .i64 x.1.2, .bool x.2]) (.agg #[.int .i64 y.1.1, .int .i64 y.1.2, .bool y.2])).run Tryz.prog w = .ok (.bool (!decide (x = y))) w := by
  have h := eql_change x y w
  rw [run_eql_struct] at h
  rw [run_neq_struct]
  cases hr : (Op.equalIn 10000 51 (.agg #[.int .i64 x.1.1, .int .i64 x.1.2, .bool x.2]) (.agg #[.int .i64 y.1.1, .int .i64 y.1.2, .bool y.2])).run Tryz.prog w with
  | ok b w' =>
    rw [hr] at h
    simp only [Result.andThen_ok] at h ⊢
    cases h
    rfl
  | _ => rw [hr] at h; cases h
section
variable {F : Asn} {w : World} {R : Ending → World → Prop} {v u : Value}

set_option maxRecDepth 100000 in
set_option maxHeartbeats 2000000 in
theorem rsamec_any {l m : List Ch} (hv : ReadsC F v l) (hu : ReadsC F u m) {d : Bool} (hd : Hid (d = decide (l = m))) (H : Sat F w) (h : ∀ w', Sat F w' → Io w w' → R (.returned (.bool d)) w') :
    Calls Tryz.prog 47 #[v, u] w R := by
  obtain ⟨a, c, rfl, hm⟩ := readsC_len hv
  obtain ⟨a', c', rfl, hm'⟩ := readsC_len hu
  have HV := Lib.hid (fun k hk => readsC_get hv k hk)
  have HU := Lib.hid (fun k hk => readsC_get hu k hk)
  have HH := Lib.hid h
  clear h hv hu
  by_cases hn : l.length = m.length
  · go_enter Tryz.func47, Tryz.ntmps47
    go_wp2_with fail
    go_loopw [5] (fun x wr => ∃ (k : Nat), k ≤ l.length ∧ x = .int .i64 (k : Int) ∧ Hid (l.take k = m.take k) ∧ Sat F wr ∧ Io w wr) (fun x _ => l.length - (intOf x).toNat)
    case atStart => exact ⟨0, by omega, rfl, Lib.hid rfl, H, Io.refl _⟩
    case round =>
      obtain ⟨k, hk, rfl, hs, Hk, Ik⟩ := hrel
      by_cases hlt : k < l.length
      · have hlti : (k : Int) < (l.length : Int) := by omega
        have hltm : (k : Int) < (m.length : Int) := by omega
        obtain ⟨b, off, x1, x2, x3, rfl, hx, hc⟩ := HV.out k hlt
        obtain ⟨b', off', y1, y2, y3, rfl, hy, hc'⟩ := HU.out k (by omega)
        have Hn := fun n => Hk.drewN n
        have In := fun n => Ik.drewN n
        obtain ⟨c0, c1, c2⟩ := hc wr Hk
        obtain ⟨e0, e1, e2⟩ := hc' wr Hk
        have EQ := fun W => neq_change ((x1, x2), x3) ((y1, y2), y3) W
        obtain ⟨eq, heq⟩ : ∃ e, e = decide (((x1, x2), x3) = ((y1, y2), y3)) := ⟨_, rfl⟩
        rw [← heq] at EQ
        have HE : Hid (eq = decide (l[k] = m[k]'(by omega))) := Lib.hid (by rw [heq, hx, hy])
        clear hc hc' hx hy heq
        simp only at EQ
        cases eq with
        | true =>
          have HS' : Hid (l.take (k + 1) = m.take (k + 1)) := Lib.hid (by rw [List.take_succ_eq_append_getElem hlt, List.take_succ_eq_append_getElem (by omega), hs.out, of_decide_eq_true HE.out.symm])
          simp only [Bool.not_true] at EQ
          clear HE hs
          go_wp2_with fail
          go_quiet (fail)
          go_wp2_with fail
          go_roundw
          case rel => exact ⟨k + 1, by omega, by go_num, HS', Hn _, In _⟩
          case measure => simp [intOf]; omega
        | false =>
          have fin := fun n => HH.out _ (Hn n) (In n)
          have hne : d = false := by
            rw [hd.out]
            refine decide_eq_false ?_
            rintro rfl
            exact of_decide_eq_false HE.out.symm rfl
          subst hne
          simp only [Bool.not_false] at EQ
          clear HE hs HH
          go_wp2_with fail
          go_quiet (fail)
          go_wp2_with fail
          exact fin _
      · obtain rfl : k = l.length := by omega
        have hge : ¬ (l.length : Int) < (l.length : Int) := by omega
        have he : d = true := by
          rw [hd.out]
          refine decide_eq_true ?_
          have := hs.out
          rwa [List.take_length, hn, List.take_length] at this
        subst he
        clear HV HU
        go_wp2_with fail
        exact HH.out _ Hk Ik
  · have hni : ¬ (l.length : Int) = (m.length : Int) := by omega
    have he : d = false := by
      rw [hd.out]
      refine decide_eq_false ?_
      rintro rfl
      exact hn rfl
    subst he
    have HN := Lib.hid hn
    have hq : ((l.length : Int) != (m.length : Int)) = true := by rw [bne_iff_ne]; exact hni
    clear HV HU hn hni
    go_enter Tryz.func47, Tryz.ntmps47
    go_wp2_with fail
    exact HH.out _ H (Io.refl _)

theorem rwithout_e {l : List Pr} (hv : ReadsP F v l) (hl : l.length ≤ 1000) (p : Pr) {o : List Pr} (ho : Hid (o = Eg.without l p)) (H : Sat F w) (h : ∀ v' w', Sat (RowP v' o * F) w' → Io w w' → R (.returned v') w') :
    Calls Tryz.prog 83 #[v, .agg #[.int .i64 p.1, .int .i64 p.2]] w R := rwithout_any hv hl p H (by rw [← ho.out]; exact h)

end

namespace Eg

theorem dmap_take (b s : List Pr) (k : Nat) (hk : k < s.length) : (s.take (k + 1)).map (fun x => (x, decide (x ∈ b))) = (s.take k).map (fun x => (x, decide (x ∈ b))) ++ [(s[k], decide (s[k] ∈ b))] := by
  rw [List.take_succ_eq_append_getElem hk, List.map_append]
  rfl

theorem one_len (s : List Pr) (x : Ch) : (one s x).length ≤ s.length + 1 := by
  unfold one
  split
  · exact put_len _ _
  · have := without_len s x.1; omega

theorem fold_one_len : ∀ (c : List Ch) (s : List Pr), (c.foldl one s).length ≤ s.length + c.length
  | [], s => by simp
  | x :: l, s => by
    have h1 := fold_one_len l (one s x)
    have h2 := one_len s x
    rw [List.foldl_cons, List.length_cons]
    omega

theorem one_take (c : List Ch) (s : List Pr) (k : Nat) (hk : k < c.length) : (c.take (k + 1)).foldl one s = one ((c.take k).foldl one s) c[k] := by
  rw [List.take_succ_eq_append_getElem hk, List.foldl_append]
  rfl

end Eg
section
variable {F : Asn} {w : World} {R : Ending → World → Prop} {l m : List Pr} {v u : Value}

set_option maxRecDepth 100000 in
set_option maxHeartbeats 4000000 in
theorem rdiff_any (hv : ReadsP F v l) (hl : l.length ≤ 400) (hu : ReadsP F u m) (hm0 : m.length ≤ 400) (H : Sat F w) (h : ∀ v' w', Sat (RowC v' (Eg.diff l m) * F) w' → Io w w' → R (.returned v') w') :
    Calls Tryz.prog 88 #[v, u] w R := by
  have hA := Eg.minus_le l m
  have hB := Eg.minus_le m l
  obtain ⟨A, EA⟩ : ∃ A, Hid (A = Eg.minus l m) := ⟨_, Lib.hid rfl⟩
  obtain ⟨B, EB⟩ : ∃ B, Hid (B = Eg.minus m l) := ⟨_, Lib.hid rfl⟩
  have hSl := Eg.sort_len (A ++ B)
  obtain ⟨S, hS⟩ : ∃ S, Hid (S = Eg.sort (A ++ B)) := ⟨_, Lib.hid rfl⟩
  have HH := Lib.hid h
  rw [← hS.out, List.length_append] at hSl
  rw [← EA.out] at hA
  rw [← EB.out] at hB
  clear h
  go_enter Tryz.func88, Tryz.ntmps88
  go_wp2_with (first
    | (go_at_call 103; first
      | (with_reducible refine rminus_any hv (by omega) hu H ?_; intro v1 w1 H1 I1; rw [← EA.out] at H1; have r1 := Lib.hid (readsP_row H1 (by omega)))
      | (with_reducible refine rminus_any (l := m) (m := l) hu.with (by omega) hv.with H2 ?_; intro v3 w3 H3 I3; rw [← EB.out] at H3; have r3 := Lib.hid (readsP_row H3.mid (by omega)); have H3' := H3.of_eq (show _ = RowP v2 A * (RowP v3 B * F) from by ac_rfl)))
    | (at_builtin; first
      | (refine wpList_append_pairs rfl (.tmp 9) (.tmp 12) rfl rfl (row_nilP H1) (by simp) (by omega) rfl r1.out ?_; intro v2 w2 H2' I2; rw [List.nil_append] at H2'; have H2 := H2'.mid)
      | (refine wpList_append_pairs rfl (.tmp 14) (.tmp 17) rfl rfl H3' (by omega) (by omega) rfl r3.out ?_; intro v4 w4 H4' I4; have H4 := H4'.mid; have r4 := Lib.hid (readsP_row H4 (by rw [List.length_append]; omega))))
    | (go_at_call 104; with_reducible refine rsort_any r4.out (by rw [List.length_append]; omega) H4 ?_; intro vs w5 H5' I5; rw [← hS.out] at H5'; have H5 := H5'.mid))
  clear r1 r3 r4
  have hs := readsP_row H5 (by omega)
  obtain ⟨sa, sc, rfl, hm⟩ := readsP_len hs
  have HV := Lib.hid (fun k hk => readsP_get hs k hk)
  have HU := fun G => Lib.hid ((hu.with (G := RowP (.slice sa S.length sc) S)).with (G := G))
  have I0 := (((I1.trans I2).trans I3).trans I4).trans I5
  clear hs hu hv H1 H2' H2 H3 H3' H4 H4' H5' I1 I2 I3 I4 I5
  go_loopw [7, 8] (fun y x wr => ∃ (k : Nat) (o : List Ch), k ≤ S.length ∧ x = .int .i64 (k : Int) ∧ Hid ((S.take k).map (fun x => (x, decide (x ∈ m))) = o) ∧ Sat (RowC y o * (RowP (.slice sa S.length sc) S * F)) wr ∧ Io w wr) (fun _ x _ => S.length - (intOf x).toNat)
  case atStart => exact ⟨0, [], by omega, rfl, Lib.hid rfl, rowOf_nil H5, I0⟩
  case round =>
    obtain ⟨k, o, hk, rfl, hs, Hk, Ik⟩ := hrel
    clear H5 I0
    by_cases hlt : k < S.length
    · have hlti : (k : Int) < (S.length : Int) := by omega
      obtain ⟨b, off, x1, x2, rfl, hx, hc⟩ := HV.out k hlt
      obtain ⟨c0, c1⟩ := hc wr.drew Hk.drew.right
      have ol : o.length ≤ 1000 := by
        rw [← hs.out, List.length_map, List.length_take]
        omega
      have hw := Eg.dmap_take m S k hlt
      rw [hs.out, hx] at hw
      obtain ⟨d, hd⟩ : ∃ d, Hid (d = decide ((x1, x2) ∈ m)) := ⟨_, Lib.hid rfl⟩
      have HS : Hid ((S.take (k + 1)).map (fun x => (x, decide (x ∈ m))) = o ++ [((x1, x2), d)]) := Lib.hid (by rw [hw, hd.out])
      have OL := Lib.hid ol
      have HC := Lib.hid hc
      clear hc hx hs ol hw
      go_wp2_with fail
      go_region_held3 (fun W => W.cell? ⟨b, off + k * 2, none⟩ = some (.int .i64 x1) ∧ W.cell? ⟨b, off + k * 2 + 1, none⟩ = some (.int .i64 x2)) (first | exact ⟨c0, c1⟩ | exact z2 | exact z3 | exact z4) (first
        | (go_at_call 81; with_reducible refine rhas_d (p := (x1, x2)) (HU _).out hd Hk.drew ?_; intro w2 H2 I2; have z2 := HC.out w2 H2.right; have z3 := HC.out _ (H2.alloc (.cells #[.int .i64 x1, .int .i64 x2, .bool d] 51)).right)
        | (refine step_append_rec Tryz.rowC encC_ok rfl (.tmp 27) (.tmp 39) rfl rfl H2 (by have := OL.out; omega) ((x1, x2), d) rfl rfl ?_; intro v3 w3 H3 I3; have z4 := HC.out w3 H3.right))
      go_wp2_with fail
      go_roundw
      case rel => exact ⟨k + 1, o ++ [((x1, x2), d)], by omega, by go_num, HS, H3, (Ik.drew.trans I2).trans I3⟩
      case measure => simp [intOf]; omega
    · obtain rfl : k = S.length := by omega
      have hge : ¬ (S.length : Int) < (S.length : Int) := by omega
      have he : Hid (Eg.diff l m = o) := Lib.hid (by unfold Eg.diff; rw [← EA.out, ← EB.out, ← hS.out, ← hs.out, List.take_length])
      clear HV HU
      go_wp2_with fail
      refine HH.out _ _ ?_ Ik
      rw [he.out]
      exact Hk.mid

end

end Go.Proofs.YtabpgejjnphfcaaGreat
