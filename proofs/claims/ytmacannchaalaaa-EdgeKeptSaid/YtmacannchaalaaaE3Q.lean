/-
  The document's lists of pairs: Sort, Without, Same, by their walks. It proves no statement by itself.
-/
import Derived.Test.YtmacannchaalaaaE3P
namespace Go.Proofs.Ytmacannchaalaaa
open Go.RowKit
set_option linter.unusedSimpArgs false
set_option linter.unusedVariables false

/-- `!=` at a pair. -/
theorem neq_pair (x y : Pr) (w : World) : (binOp .neq 25 (.agg #[.int .i64 x.1, .int .i64 x.2]) (.agg #[.int .i64 y.1, .int .i64 y.2])).run Try.prog w = .ok (.bool (!decide (x = y))) w := by
  have h := eql_pair x y w
  rw [run_eql_struct] at h
  rw [run_neq_struct]
  cases hr : (Op.equalIn 10000 25 (.agg #[.int .i64 x.1, .int .i64 x.2]) (.agg #[.int .i64 y.1, .int .i64 y.2])).run Try.prog w with
  | ok b w' =>
    rw [hr] at h
    simp only [Result.andThen_ok] at h ⊢
    cases h
    rfl
  | _ => rw [hr] at h; cases h
theorem readsP_len {F : Asn} {v : Value} {l : List Pr} (h : ReadsP F v l) : ∃ a c, v = .slice a l.length c ∧ (l.length : Int) ≤ 9223372036854775807 := by
  obtain ⟨a, c, h1, h2, _⟩ := h
  exact ⟨a, c, h1, by omega⟩

namespace Eg
theorem sort_take (l : List Pr) (k : Nat) (hk : k < l.length) : (l.take (k + 1)).foldl put [] = put ((l.take k).foldl put []) l[k] := by
  rw [List.take_succ_eq_append_getElem hk, List.foldl_append]
  rfl
theorem put_len (l : List Pr) (p : Pr) : (put l p).length ≤ l.length + 1 := by
  have ins_len : ∀ l : List Pr, (ins p l).length = l.length + 1 := by
    intro l
    induction l with
    | nil => rfl
    | cons q l ih =>
      unfold ins
      split
      · rfl
      · simp [ih]
  unfold put
  split
  · omega
  · rw [ins_len]; omega
theorem fold_put_len : ∀ (l s : List Pr), (l.foldl put s).length ≤ s.length + l.length
  | [], s => by simp
  | x :: l, s => by
    have h1 := fold_put_len l (put s x)
    have h2 := put_len s x
    rw [List.foldl_cons, List.length_cons]
    omega
theorem sort_len (l : List Pr) : (sort l).length ≤ l.length := by
  have := fold_put_len l []
  simpa [sort] using this
theorem without_take (l : List Pr) (p : Pr) (k : Nat) (hk : k < l.length) : without (l.take (k + 1)) p = if l[k] = p then without (l.take k) p else without (l.take k) p ++ [l[k]] := by
  unfold without
  rw [List.take_succ_eq_append_getElem hk, List.filter_append]
  by_cases h : l[k] = p <;> simp [h]
theorem without_len (l : List Pr) (p : Pr) : (without l p).length ≤ l.length := List.length_filter_le _ _
end Eg

section
variable {F : Asn} {w : World} {R : Ending → World → Prop} {l m : List Pr} {v u : Value}
theorem rput_e (hv : ReadsP F v l) (hl : l.length ≤ 1000) (p : Pr) {o : List Pr} (ho : Hid (o = Eg.put l p)) (H : Sat F w) (h : ∀ v' w', Sat (RowP v' o * F) w' → Io w w' → R (.returned v') w') :
    Calls Try.prog 48 #[v, .agg #[.int .i64 p.1, .int .i64 p.2]] w R := rputp_any hv hl p H (by rw [← ho.out]; exact h)
set_option maxRecDepth 100000 in
set_option maxHeartbeats 2000000 in
theorem rsort_any (hv : ReadsP F v l) (hl : l.length ≤ 1000) (H : Sat F w) (h : ∀ v' w', Sat (RowP v' (Eg.sort l) * F) w' → Io w w' → R (.returned v') w') :
    Calls Try.prog 26 #[v] w R := by
  obtain ⟨a, c, rfl, hm⟩ := readsP_len hv
  have HV := Lib.hid (fun k hk => readsP_get hv k hk)
  have HH := Lib.hid h
  clear h hv
  go_enter Try.func26, Try.ntmps26
  go_wp2_with fail
  go_loopw [3, 4] (fun y x wr => ∃ (k : Nat) (o : List Pr), k ≤ l.length ∧ x = .int .i64 (k : Int) ∧ Hid ((l.take k).foldl Eg.put [] = o) ∧ Sat (RowP y o * F) wr ∧ Io w wr) (fun _ x _ => l.length - (intOf x).toNat)
  case atStart => exact ⟨0, [], by omega, rfl, Lib.hid rfl, row_nilP H, Io.refl _⟩
  case round =>
    obtain ⟨k, o, hk, rfl, hs, Hk, Ik⟩ := hrel
    by_cases hlt : k < l.length
    · have hlti : (k : Int) < (l.length : Int) := by omega
      obtain ⟨b, off, x1, x2, rfl, hx, hc⟩ := HV.out k hlt
      obtain ⟨c0, c1⟩ := hc wr Hk.right
      obtain ⟨o', ho'⟩ : ∃ o', Hid (o' = Eg.put o (x1, x2)) := ⟨_, Lib.hid rfl⟩
      have ol : o.length ≤ 1000 := by
        have := Eg.fold_put_len (l.take k) []
        rw [hs.out, List.length_take] at this
        simp at this
        omega
      have HS : Hid ((l.take (k + 1)).foldl Eg.put [] = o') := Lib.hid (by rw [Eg.sort_take l k hlt, hs.out, hx, ho'.out])
      have hr := Lib.hid (readsP_row Hk (by omega))
      have OL := Lib.hid ol
      clear hc hx hs ol
      go_wp2_with (go_at_call 48; with_reducible refine rput_e (p := (x1, x2)) hr.out OL.out ho' Hk ?_; intro w1 v1 H1 I1)
      go_roundw
      case rel => exact ⟨k + 1, o', by omega, by go_num, HS, H1.mid, Ik.trans I1⟩
      case measure => simp [intOf]; omega
    · obtain rfl : k = l.length := by omega
      have hge : ¬ (l.length : Int) < (l.length : Int) := by omega
      have he : Hid (Eg.sort l = o) := Lib.hid (by unfold Eg.sort; rw [← hs.out, List.take_length])
      clear HV
      go_wp2_with fail
      refine HH.out _ _ ?_ Ik
      rw [he.out]
      exact Hk
set_option maxRecDepth 100000 in
set_option maxHeartbeats 2000000 in
theorem rwithout_any (hv : ReadsP F v l) (hl : l.length ≤ 1000) (p : Pr) (H : Sat F w) (h : ∀ v' w', Sat (RowP v' (Eg.without l p) * F) w' → Io w w' → R (.returned v') w') :
    Calls Try.prog 49 #[v, .agg #[.int .i64 p.1, .int .i64 p.2]] w R := by
  obtain ⟨a, c, rfl, hm⟩ := readsP_len hv
  have HV := Lib.hid (fun k hk => readsP_get hv k hk)
  have HH := Lib.hid h
  clear h hv
  obtain ⟨p1, p2⟩ := p
  have HP := H.new (.cells #[.int .i64 p1, .int .i64 p2] 25)
  have IP := (Io.refl w).alloc (.cells #[.int .i64 p1, .int .i64 p2] 25)
  go_enter Try.func49, Try.ntmps49
  go_wp2_with fail
  generalize w.alloc (.cells #[.int .i64 p1, .int .i64 p2] 25) = w0 at *
  generalize w.heap.size = bp at *
  go_loopw [5, 6] (fun y x wr => ∃ (k : Nat) (o : List Pr), k ≤ l.length ∧ x = .int .i64 (k : Int) ∧ Hid (Eg.without (l.take k) (p1, p2) = o) ∧ Sat (RowP y o * (pts bp (.cells #[.int .i64 p1, .int .i64 p2] 25 (0, 0)) * F)) wr ∧ Io w wr) (fun _ x _ => l.length - (intOf x).toNat)
  case atStart => exact ⟨0, [], by omega, rfl, Lib.hid rfl, row_nilP HP, IP⟩
  case round =>
    obtain ⟨k, o, hk, rfl, hs, Hk, Ik⟩ := hrel
    clear HP IP
    by_cases hlt : k < l.length
    · have hlti : (k : Int) < (l.length : Int) := by omega
      obtain ⟨b, off, x1, x2, rfl, hx, hc⟩ := HV.out k hlt
      have Hn := fun n => Hk.drewN n
      have In := fun n => Ik.drewN n
      obtain ⟨q0, q1⟩ := box_cells Hk.right
      obtain ⟨c0, c1⟩ := hc wr Hk.right.right
      have EQ := fun W => neq_pair (x1, x2) (p1, p2) W
      obtain ⟨eq, heq⟩ : ∃ e, e = decide ((x1, x2) = (p1, p2)) := ⟨_, rfl⟩
      rw [← heq] at EQ
      have ol : o.length ≤ 1000 := by
        have := Eg.without_len (l.take k) (p1, p2)
        rw [hs.out, List.length_take] at this
        omega
      have hw := Eg.without_take l (p1, p2) k hlt
      rw [hs.out, hx] at hw
      have HS := Lib.hid hw
      have OL := Lib.hid ol
      have HE := Lib.hid heq
      clear hc hx hs ol hw heq
      simp only at EQ
      cases eq with
      | true =>
        have HS' : Hid (Eg.without (l.take (k + 1)) (p1, p2) = o) := Lib.hid (by rw [HS.out, if_pos (of_decide_eq_true HE.out.symm)])
        simp only [Bool.not_true] at EQ
        clear HE HS
        go_wp2_with fail
        go_quiet (fail)
        go_wp2_with fail
        go_roundw
        case rel => exact ⟨k + 1, o, by omega, by go_num, HS', Hn _, In _⟩
        case measure => simp [intOf]; omega
      | false =>
        have HS' : Hid (Eg.without (l.take (k + 1)) (p1, p2) = o ++ [(x1, x2)]) := Lib.hid (by rw [HS.out, if_neg (of_decide_eq_false HE.out.symm)])
        simp only [Bool.not_false] at EQ
        clear HE HS
        go_wp2_with fail
        go_quiet (fail)
        go_wp2_with (at_builtin; refine wpList_append_pair rfl (.tmp 19) (.tmp 24) rfl rfl (Hn _) (by have := OL.out; omega) rfl rfl ?_; intro v3 w3 H3 I3)
        go_roundw
        case rel => exact ⟨k + 1, o ++ [(x1, x2)], by omega, by go_num, HS', H3, (In _).trans I3⟩
        case measure => simp [intOf]; omega
    · obtain rfl : k = l.length := by omega
      have hge : ¬ (l.length : Int) < (l.length : Int) := by omega
      have he : Hid (Eg.without l (p1, p2) = o) := Lib.hid (by rw [← hs.out, List.take_length])
      clear HV
      go_wp2_with fail
      refine HH.out _ _ ?_ Ik
      rw [he.out]
      exact Hk.mid
set_option maxRecDepth 100000 in
set_option maxHeartbeats 2000000 in
theorem rsame_any (hv : ReadsP F v l) (hu : ReadsP F u m) {d : Bool} (hd : Hid (d = decide (l = m))) (H : Sat F w) (h : ∀ w', Sat F w' → Io w w' → R (.returned (.bool d)) w') :
    Calls Try.prog 20 #[v, u] w R := by
  obtain ⟨a, c, rfl, hm⟩ := readsP_len hv
  obtain ⟨a', c', rfl, hm'⟩ := readsP_len hu
  have HV := Lib.hid (fun k hk => readsP_get hv k hk)
  have HU := Lib.hid (fun k hk => readsP_get hu k hk)
  have HH := Lib.hid h
  clear h hv hu
  by_cases hn : l.length = m.length
  · go_enter Try.func20, Try.ntmps20
    go_wp2_with fail
    go_loopw [5] (fun x wr => ∃ (k : Nat), k ≤ l.length ∧ x = .int .i64 (k : Int) ∧ Hid (l.take k = m.take k) ∧ Sat F wr ∧ Io w wr) (fun x _ => l.length - (intOf x).toNat)
    case atStart => exact ⟨0, by omega, rfl, Lib.hid rfl, H, Io.refl _⟩
    case round =>
      obtain ⟨k, hk, rfl, hs, Hk, Ik⟩ := hrel
      by_cases hlt : k < l.length
      · have hlti : (k : Int) < (l.length : Int) := by omega
        have hltm : (k : Int) < (m.length : Int) := by omega
        obtain ⟨b, off, x1, x2, rfl, hx, hc⟩ := HV.out k hlt
        obtain ⟨b', off', y1, y2, rfl, hy, hc'⟩ := HU.out k (by omega)
        have Hn := fun n => Hk.drewN n
        have In := fun n => Ik.drewN n
        obtain ⟨c0, c1⟩ := hc wr Hk
        obtain ⟨e0, e1⟩ := hc' wr Hk
        have EQ := fun W => neq_pair (x1, x2) (y1, y2) W
        obtain ⟨eq, heq⟩ : ∃ e, e = decide ((x1, x2) = (y1, y2)) := ⟨_, rfl⟩
        rw [← heq] at EQ
        have HE : Hid (eq = decide (l[k] = m[k]'(by omega))) := Lib.hid (by rw [heq, hx, hy])
        clear hc hc' hx hy heq
        simp only at EQ
        cases eq with
        | true =>
          have HS' : Hid (l.take (k + 1) = m.take (k + 1)) := Lib.hid (by rw [List.take_succ_eq_append_getElem hlt, List.take_succ_eq_append_getElem (by omega), hs.out, of_decide_eq_true HE.out.symm])
          simp only [Bool.not_true] at EQ
          clear HE hs
          go_wp2_with fail
          go_quiet (fail)
          go_wp2_with fail
          go_roundw
          case rel => exact ⟨k + 1, by omega, by go_num, HS', Hn _, In _⟩
          case measure => simp [intOf]; omega
        | false =>
          have fin := fun n => HH.out _ (Hn n) (In n)
          have hne : d = false := by
            rw [hd.out]
            refine decide_eq_false ?_
            rintro rfl
            exact of_decide_eq_false HE.out.symm rfl
          subst hne
          simp only [Bool.not_false] at EQ
          clear HE hs HH
          go_wp2_with fail
          go_quiet (fail)
          go_wp2_with fail
          exact fin _
      · obtain rfl : k = l.length := by omega
        have hge : ¬ (l.length : Int) < (l.length : Int) := by omega
        have he : d = true := by
          rw [hd.out]
          refine decide_eq_true ?_
          have := hs.out
          rwa [List.take_length, hn, List.take_length] at this
        subst he
        clear HV HU
        go_wp2_with fail
        exact HH.out _ Hk Ik
  · have hni : ¬ (l.length : Int) = (m.length : Int) := by omega
    have he : d = false := by
      rw [hd.out]
      refine decide_eq_false ?_
      rintro rfl
      exact hn rfl
    subst he
    have HN := Lib.hid hn
    have hq : ((l.length : Int) != (m.length : Int)) = true := by rw [bne_iff_ne]; exact hni
    clear HV HU hn hni
    go_enter Try.func20, Try.ntmps20
    go_wp2_with fail
    exact HH.out _ H (Io.refl _)
end
end Go.Proofs.Ytmacannchaalaaa
