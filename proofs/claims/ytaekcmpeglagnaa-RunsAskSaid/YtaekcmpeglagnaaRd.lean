/-
  The document's lists of runs: Norm, Has, Count, Same, by their walks. It proves no statement by itself.
-/
import Derived.Test.YtaekcmpeglagnaaRp
namespace Go.Proofs.Ytaekcmpeglagnaa
open Go.RowKit Go.Lib
set_option linter.unusedSimpArgs false
set_option linter.unusedVariables false

section
variable {F : Asn} {w : World} {R : Ending → World → Prop} {l m : List Rn} {v u : Value}
set_option maxRecDepth 100000 in
set_option maxHeartbeats 2000000 in
theorem rnorm_any (hv : ReadsR F v l) (hl : l.length ≤ 10000) (H : Sat F w) (h : ∀ v' w', Sat (RowR v' (Rs.norm l) * F) w' → Io w w' → R (.returned v') w') :
    Calls Try.prog 10 #[v] w R := by
  obtain ⟨a, c, rfl, hm⟩ := readsR_len hv
  have HV := Lib.hid (fun k hk => readsR_get hv k hk)
  have HH := Lib.hid h
  clear h hv
  go_enter Try.func10, Try.ntmps10
  go_wp2_with fail
  go_loopw [3, 4] (fun y x wr => ∃ (k : Nat) (o : List Rn), k ≤ l.length ∧ x = .int .i64 (k : Int) ∧ Hid ((l.take k).foldl Rs.put [] = o) ∧ Sat (RowR y o * F) wr ∧ Io w wr) (fun _ x _ => l.length - (intOf x).toNat)
  case atStart => exact ⟨0, [], by omega, rfl, Lib.hid rfl, row_nilR H, Io.refl _⟩
  case round =>
    obtain ⟨k, o, hk, rfl, hs, Hk, Ik⟩ := hrel
    by_cases hlt : k < l.length
    · have hlti : (k : Int) < (l.length : Int) := by omega
      obtain ⟨b, off, x1, x2, rfl, hx, hc⟩ := HV.out k hlt
      obtain ⟨c0, c1⟩ := hc wr Hk.right
      obtain ⟨o', ho'⟩ : ∃ o', Hid (o' = Rs.put o (x1, x2)) := ⟨_, Lib.hid rfl⟩
      have ol : o.length ≤ 10000 := by
        have := Rs.nfold_len (l.take k) []
        rw [hs.out, List.length_take] at this
        simp at this
        omega
      have hcan : Hid (Rs.Canon o) := Lib.hid (by rw [← hs.out]; exact Rs.canon_nfold _)
      have HS : Hid ((l.take (k + 1)).foldl Rs.put [] = o') := Lib.hid (by rw [Rs.fold_take _ _ _ _ hlt, hs.out, hx, ho'.out])
      have OL := Lib.hid ol
      clear hc hx hs ol
      go_wp2_with (go_at_call 26; with_reducible refine rputr_row Hk (by have := OL.out; omega) hcan.out (x1, x2) ho' ?_; intro v1 w1 H1 I1)
      go_roundw
      case rel => exact ⟨k + 1, o', by omega, by go_num, HS, H1, Ik.trans I1⟩
      case measure => simp [intOf]; omega
    · obtain rfl : k = l.length := by omega
      have hge : ¬ (l.length : Int) < (l.length : Int) := by omega
      have he : Hid (Rs.norm l = o) := Lib.hid (by unfold Rs.norm; rw [← hs.out, List.take_length])
      clear HV
      go_wp2_with fail
      refine HH.out _ _ ?_ Ik
      rw [he.out]
      exact Hk
set_option maxRecDepth 100000 in
set_option maxHeartbeats 4000000 in
theorem rhasr_any (hv : ReadsR F v l) (n : Int) {d : Bool} (hd : Hid (d = decide (Rs.Has l n))) (H : Sat F w) (h : ∀ w', Sat F w' → Io w w' → R (.returned (.bool d)) w') :
    Calls Try.prog 13 #[v, .int .i64 n] w R := by
  obtain ⟨a, c, rfl, hm⟩ := readsR_len hv
  have HV := Lib.hid (fun k hk => readsR_get hv k hk)
  have HH := Lib.hid h
  clear h hv
  go_enter Try.func13, Try.ntmps13
  go_wp2_with fail
  go_loopw [5] (fun x wr => ∃ (k : Nat), k ≤ l.length ∧ x = .int .i64 (k : Int) ∧ Hid (¬ Rs.Has (l.take k) n) ∧ Sat F wr ∧ Io w wr) (fun x _ => l.length - (intOf x).toNat)
  case atStart => exact ⟨0, by omega, rfl, Lib.hid (fun k => Rs.mem_nil _ k.2.2), H, Io.refl _⟩
  case round =>
    obtain ⟨k, hk, rfl, hs, Hk, Ik⟩ := hrel
    by_cases hlt : k < l.length
    · have hlti : (k : Int) < (l.length : Int) := by omega
      obtain ⟨b, off, x1, x2, rfl, hx, hc⟩ := HV.out k hlt
      obtain ⟨c0, c1⟩ := hc wr Hk
      have ht := Rs.has_take l n k hlt
      rw [hx] at ht
      simp only [Rs.most] at ht
      clear hc hx
      by_cases hin : 0 ≤ n ∧ n ≤ 4294967295 ∧ x1 ≤ n ∧ n ≤ x2
      · have hyes : Rs.Has (l.take (k + 1)) n := ht.2 (.inr hin)
        have hall : Rs.Has l n := by
          obtain ⟨p, q, r, hr, z⟩ := hyes
          exact ⟨p, q, r, List.mem_of_mem_take hr, z⟩
        obtain rfl : d = true := by rw [hd.out]; exact decide_eq_true hall
        have HS := Lib.hid hs
        obtain ⟨i1, i2, i3, i4⟩ := hin
        clear hs ht hyes hall HV
        go_wp2_with fail
        exact HH.out _ Hk Ik
      · have hno : Hid (¬ Rs.Has (l.take (k + 1)) n) := Lib.hid (fun z => (ht.1 z).elim hs.out hin)
        have hcase : n < 0 ∨ (0 ≤ n ∧ 4294967295 < n) ∨ (0 ≤ n ∧ n ≤ 4294967295 ∧ n < x1) ∨ (0 ≤ n ∧ n ≤ 4294967295 ∧ x1 ≤ n ∧ x2 < n) := by omega
        clear hs ht hin
        rcases hcase with i1 | ⟨i1, i2⟩ | ⟨i1, i2, i3⟩ | ⟨i1, i2, i3, i4⟩
        all_goals
          go_wp2_with fail
          go_roundw
          case rel => exact ⟨k + 1, by omega, by go_num, hno, Hk, Ik⟩
          case measure => simp [intOf]; omega
    · obtain rfl : k = l.length := by omega
      have hge : ¬ (l.length : Int) < (l.length : Int) := by omega
      obtain rfl : d = false := by rw [hd.out]; exact decide_eq_false (by have := hs.out; rwa [List.take_length] at this)
      clear HV
      go_wp2_with fail
      exact HH.out _ Hk Ik
set_option maxRecDepth 100000 in
set_option maxHeartbeats 4000000 in
theorem rcount_any (hv : ReadsR F v l) (hl : l.length ≤ 10000) {n : Int} (hn : Hid (n = Rs.count l)) (H : Sat F w) (h : ∀ w', Sat F w' → Io w w' → R (.returned (.int .i64 n)) w') :
    Calls Try.prog 15 #[v] w R := by
  have HH := Lib.hid h
  have HC := Lib.hid (Rs.canon_norm l)
  have hnl := Rs.norm_len l
  have hn2 : Hid (n = Rs.len (Rs.norm l)) := Lib.hid hn.out
  clear h hn
  go_enter Try.func15, Try.ntmps15
  go_wp2_with (go_at_call 10; with_reducible refine rnorm_any hv hl H ?_; intro v1 w1 H1 I1)
  generalize Rs.norm l = S at *
  have rv := Reads.of_row H1 (by omega)
  obtain ⟨a, c, rfl, hm⟩ := readsR_len rv
  have HV := Lib.hid (fun k hk => readsR_get rv k hk)
  clear rv hv
  go_loopw [3, 5] (fun y x wr => ∃ (k : Nat) (t : Int), k ≤ S.length ∧ x = .int .i64 (k : Int) ∧ y = .int .i64 t ∧ Hid (Rs.len (S.take k) = t) ∧ Sat (RowR (.slice a S.length c) S * F) wr ∧ Io w wr) (fun _ x _ => S.length - (intOf x).toNat)
  case atStart => exact ⟨0, 0, by omega, rfl, rfl, Lib.hid rfl, H1, I1⟩
  case round =>
    obtain ⟨k, t, hk, rfl, rfl, hs, Hk, Ik⟩ := hrel
    clear H1 I1
    have hb := Rs.len_bound HC.out k
    rw [hs.out] at hb
    simp only [Rs.most] at hb
    obtain ⟨t0, t1⟩ := hb
    by_cases hlt : k < S.length
    · have hlti : (k : Int) < (S.length : Int) := by omega
      have hk0 : (0 : Int) ≤ (k : Int) := by omega
      obtain ⟨b, off, x1, x2, rfl, hx, hc⟩ := HV.out k hlt
      obtain ⟨c0, c1⟩ := hc wr Hk
      obtain ⟨y0, y1, y2⟩ := HC.out.1 S[k] (List.getElem_mem hlt)
      rw [hx] at y0 y1 y2
      simp only [Rs.most] at y0 y1 y2
      have HS : Hid (Rs.len (S.take (k + 1)) = t + x2 - x1 + 1) := Lib.hid (by rw [Rs.len_take _ _ hlt, hs.out, hx]; show t + (x2 - x1 + 1) = _; omega)
      have Hn := fun n => Hk.drewN n
      have In := fun n => Ik.drewN n
      clear hc hx hs
      go_wp2_with fail
      go_quiet (fail)
      go_wp2_with fail
      go_roundw
      case rel => exact ⟨k + 1, t + x2 - x1 + 1, by omega, by go_num, by go_num, HS, Hn _, In _⟩
      case measure => simp [intOf]; omega
    · obtain rfl : k = S.length := by omega
      have hge : ¬ (S.length : Int) < (S.length : Int) := by omega
      have he : n = t := by rw [hn2.out, ← hs.out, List.take_length]
      subst he
      clear HV
      go_wp2_with fail
      exact HH.out _ Hk.right Ik
set_option maxRecDepth 100000 in
set_option maxHeartbeats 2000000 in
theorem rsamer_any (hv : ReadsR F v l) (hu : ReadsR F u m) {d : Bool} (hd : Hid (d = decide (l = m))) (H : Sat F w) (h : ∀ w', Sat F w' → Io w w' → R (.returned (.bool d)) w') :
    Calls Try.prog 22 #[v, u] w R := by
  obtain ⟨a, c, rfl, hm⟩ := readsR_len hv
  obtain ⟨a', c', rfl, hm'⟩ := readsR_len hu
  have HV := Lib.hid (fun k hk => readsR_get hv k hk)
  have HU := Lib.hid (fun k hk => readsR_get hu k hk)
  have HH := Lib.hid h
  clear h hv hu
  by_cases hn : l.length = m.length
  · go_enter Try.func22, Try.ntmps22
    go_wp2_with fail
    go_loopw [5] (fun x wr => ∃ (k : Nat), k ≤ l.length ∧ x = .int .i64 (k : Int) ∧ Hid (l.take k = m.take k) ∧ Sat F wr ∧ Io w wr) (fun x _ => l.length - (intOf x).toNat)
    case atStart => exact ⟨0, by omega, rfl, Lib.hid rfl, H, Io.refl _⟩
    case round =>
      obtain ⟨k, hk, rfl, hs, Hk, Ik⟩ := hrel
      by_cases hlt : k < l.length
      · have hlti : (k : Int) < (l.length : Int) := by omega
        have hltm : (k : Int) < (m.length : Int) := by omega
        have hk0 : (0 : Int) ≤ (k : Int) := by omega
        obtain ⟨b, off, x1, x2, rfl, hx, hc⟩ := HV.out k hlt
        obtain ⟨b', off', y1, y2, rfl, hy, hc'⟩ := HU.out k (by omega)
        have Hn := fun n => Hk.drewN n
        have In := fun n => Ik.drewN n
        obtain ⟨c0, c1⟩ := hc wr Hk
        obtain ⟨e0, e1⟩ := hc' wr Hk
        have EQ := fun W => neq_run (x1, x2) (y1, y2) W
        obtain ⟨eq, heq⟩ : ∃ e, e = decide ((x1, x2) = (y1, y2)) := ⟨_, rfl⟩
        rw [← heq] at EQ
        have HE : Hid (eq = decide (l[k] = m[k]'(by omega))) := Lib.hid (by rw [heq, hx, hy])
        clear hc hc' hx hy heq
        simp only at EQ
        cases eq with
        | true =>
          have HS' : Hid (l.take (k + 1) = m.take (k + 1)) := Lib.hid (by rw [List.take_succ_eq_append_getElem hlt, List.take_succ_eq_append_getElem (by omega), hs.out, of_decide_eq_true HE.out.symm])
          simp only [Bool.not_true] at EQ
          clear HE hs
          go_wp2_with fail
          go_quiet (fail)
          go_wp2_with fail
          go_roundw
          case rel => exact ⟨k + 1, by omega, by go_num, HS', Hn _, In _⟩
          case measure => simp [intOf]; omega
        | false =>
          have fin := fun n => HH.out _ (Hn n) (In n)
          have hne : d = false := by
            rw [hd.out]
            refine decide_eq_false ?_
            rintro rfl
            exact of_decide_eq_false HE.out.symm rfl
          subst hne
          simp only [Bool.not_false] at EQ
          clear HE hs HH
          go_wp2_with fail
          go_quiet (fail)
          go_wp2_with fail
          exact fin _
      · obtain rfl : k = l.length := by omega
        have hge : ¬ (l.length : Int) < (l.length : Int) := by omega
        have he : d = true := by
          rw [hd.out]
          refine decide_eq_true ?_
          have := hs.out
          rwa [List.take_length, hn, List.take_length] at this
        subst he
        clear HV HU
        go_wp2_with fail
        exact HH.out _ Hk Ik
  · have hni : ¬ (l.length : Int) = (m.length : Int) := by omega
    have he : d = false := by
      rw [hd.out]
      refine decide_eq_false ?_
      rintro rfl
      exact hn rfl
    subst he
    have HN := Lib.hid hn
    have hq : ((l.length : Int) != (m.length : Int)) = true := by rw [bne_iff_ne]; exact hni
    clear HV HU hn hni
    go_enter Try.func22, Try.ntmps22
    go_wp2_with fail
    exact HH.out _ H (Io.refl _)
end
end Go.Proofs.Ytaekcmpeglagnaa
