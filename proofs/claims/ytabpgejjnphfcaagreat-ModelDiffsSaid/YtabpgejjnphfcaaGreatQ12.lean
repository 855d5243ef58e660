/-
  slices.Contains, slices.Equal at pairs, by their walks. It proves no statement by itself.
-/
import Derived.Test.YtabpgejjnphfcaaGreatQ07
namespace Go.Proofs.YtabpgejjnphfcaaGreat
open Go.RowKit Go.Lib
set_option linter.unusedSimpArgs false
set_option linter.unusedVariables false

section
variable {F : Asn} {w : World} {R : Ending → World → Prop} {l m : List Pr} {v u : Value}
set_option maxRecDepth 100000 in
set_option maxHeartbeats 2000000 in
theorem index_any (hv : ReadsP F v l) (p : Pr) {d : Bool} (hd : Hid (d = decide (p ∈ l))) (H : Sat F w) (h : ∀ (i : Int) w', (d = true ∧ 0 ≤ i) ∨ (d = false ∧ i = -1) → Sat F w' → Io w w' → R (.returned (.int .i64 i)) w') :
    Calls Tryz.prog 98 #[v, .agg #[.int .i64 p.1, .int .i64 p.2]] w R := by
  obtain ⟨a, c, rfl, hm⟩ := readsP_len hv
  have HV := Lib.hid (fun k hk => readsP_get hv k hk)
  have HH := Lib.hid h
  clear h hv
  obtain ⟨p1, p2⟩ := p
  have HP := H.new (.cells #[.int .i64 p1, .int .i64 p2] 49)
  have IP := (Io.refl w).alloc (.cells #[.int .i64 p1, .int .i64 p2] 49)
  go_enter Tryz.func98, Tryz.ntmps98
  go_wp2_with fail
  generalize w.alloc (.cells #[.int .i64 p1, .int .i64 p2] 49) = w0 at *
  generalize w.heap.size = bp at *
  go_loopw [8] (fun x wr => ∃ k : Nat, k ≤ l.length ∧ x = .int .i64 (k : Int) ∧ Hid ((p1, p2) ∉ l.take k) ∧ Sat (pts bp (.cells #[.int .i64 p1, .int .i64 p2] 49 (0, 0)) * F) wr ∧ Io w wr) (fun x _ => l.length - (intOf x).toNat)
  case atStart => exact ⟨0, by omega, rfl, Lib.hid (by simp), HP, IP⟩
  case round =>
    obtain ⟨k, hk, rfl, HN, Hk, Ik⟩ := hrel
    clear HP IP
    by_cases hlt : k < l.length
    · have hlti : (k : Int) < (l.length : Int) := by omega
      have hk0 : (0 : Int) ≤ (k : Int) := by omega
      obtain ⟨b, off, x1, x2, rfl, hx, hc⟩ := HV.out k hlt
      obtain ⟨c0, c1⟩ := hc wr Hk.right
      have q0 := Sat.read Hk.left.at 0
      have q1 := Sat.read Hk.left.at 1
      simp only [List.getElem?_toArray, List.getElem?_cons_zero, List.getElem?_cons_succ] at q0 q1
      have EQ := fun W => eql_pair (p1, p2) (x1, x2) W
      obtain ⟨eq, heq⟩ : ∃ e, e = decide ((p1, p2) = (x1, x2)) := ⟨_, rfl⟩
      rw [← heq] at EQ
      have HE := Lib.hid heq
      have HX := Lib.hid hx
      clear hc hx heq
      simp only at EQ
      cases eq with
      | true =>
        have hin : (p1, p2) ∈ l := by
          rw [of_decide_eq_true HE.out.symm, ← HX.out]
          exact List.getElem_mem hlt
        obtain rfl : d = true := by rw [hd.out]; exact decide_eq_true hin
        have fin := fun n => HH.out (k : Int) (wr.drewN n) (.inl ⟨rfl, hk0⟩) (Hk.right.drewN n) (Ik.drewN n)
        clear HH HE HX hin
        go_wp2_with fail
        go_quiet (fail)
        go_wp2_with fail
        exact fin _
      | false =>
        have HNX : Hid ((p1, p2) ∉ l.take (k + 1)) := Lib.hid (by
          rw [List.take_succ_eq_append_getElem hlt, List.mem_append, List.mem_singleton, HX.out]
          rintro (h | h)
          · exact HN.out h
          · exact of_decide_eq_false HE.out.symm h)
        have Hn := fun n => Hk.drewN n
        have In := fun n => Ik.drewN n
        clear HE HX
        go_wp2_with fail
        go_quiet (fail)
        go_wp2_with fail
        go_roundw
        case rel => exact ⟨k + 1, by omega, by go_num, HNX, Hn _, In _⟩
        case measure => simp [intOf]; omega
    · obtain rfl : k = l.length := by omega
      have hge : ¬ (l.length : Int) < (l.length : Int) := by omega
      have hn := HN.out
      rw [List.take_length] at hn
      obtain rfl : d = false := by rw [hd.out]; exact decide_eq_false hn
      have fin := HH.out (-1) wr (.inr ⟨rfl, rfl⟩) Hk.right Ik
      clear HH HN hn HV
      go_wp2_with fail
      exact fin
set_option maxRecDepth 100000 in
theorem contains_any (hv : ReadsP F v l) (p : Pr) {d : Bool} (hd : Hid (d = decide (p ∈ l))) (H : Sat F w) (h : ∀ w', Sat F w' → Io w w' → R (.returned (.bool d)) w') :
    Calls Tryz.prog 71 #[v, .agg #[.int .i64 p.1, .int .i64 p.2]] w R := by
  obtain ⟨a, c, rfl, hm⟩ := readsP_len hv
  have HH := Lib.hid h
  clear h
  obtain ⟨p1, p2⟩ := p
  have HP := H.alloc (.cells #[.int .i64 p1, .int .i64 p2] 49)
  have IP := (Io.refl w).alloc (.cells #[.int .i64 p1, .int .i64 p2] 49)
  cases d with
  | true =>
    go_enter Tryz.func71, Tryz.ntmps71
    go_wp2_with (go_at_call 98; with_reducible refine index_any hv (p1, p2) hd HP ?_; intro i w2 hi H2 I2; have hi0 : 0 ≤ i := (by rcases hi with ⟨_, h⟩ | ⟨h, _⟩; exact h; cases h); clear hi)
    exact HH.out _ H2 (IP.trans I2)
  | false =>
    go_enter Tryz.func71, Tryz.ntmps71
    go_wp2_with (go_at_call 98; with_reducible refine index_any hv (p1, p2) hd HP ?_; intro i w2 hi H2 I2; have hi0 : i = -1 := (by rcases hi with ⟨h, _⟩ | ⟨_, h⟩; cases h; exact h); subst hi0; clear hi)
    exact HH.out _ H2 (IP.trans I2)
set_option maxRecDepth 100000 in
set_option maxHeartbeats 2000000 in
theorem equal_any (hv : ReadsP F v l) (hu : ReadsP F u m) {d : Bool} (hd : Hid (d = decide (l = m))) (H : Sat F w) (h : ∀ w', Sat F w' → Io w w' → R (.returned (.bool d)) w') :
    Calls Tryz.prog 41 #[v, u] w R := by
  obtain ⟨a, c, rfl, hm⟩ := readsP_len hv
  obtain ⟨a', c', rfl, hm'⟩ := readsP_len hu
  have HV := Lib.hid (fun k hk => readsP_get hv k hk)
  have HU := Lib.hid (fun k hk => readsP_get hu k hk)
  have HH := Lib.hid h
  clear h hv hu
  by_cases hn : l.length = m.length
  · go_enter Tryz.func41, Tryz.ntmps41
    go_wp2_with fail
    go_loopw [13] (fun x wr => ∃ (k : Nat), k ≤ l.length ∧ x = .int .i64 (k : Int) ∧ Hid (l.take k = m.take k) ∧ Sat F wr ∧ Io w wr) (fun x _ => l.length - (intOf x).toNat)
    case atStart => exact ⟨0, by omega, rfl, Lib.hid rfl, H, Io.refl _⟩
    case round =>
      obtain ⟨k, hk, rfl, hs, Hk, Ik⟩ := hrel
      by_cases hlt : k < l.length
      · have hlti : (k : Int) < (l.length : Int) := by omega
        have hltm : (k : Int) < (m.length : Int) := by omega
        have hk0 : (0 : Int) ≤ (k : Int) := by omega
        obtain ⟨b, off, x1, x2, rfl, hx, hc⟩ := HV.out k hlt
        obtain ⟨b', off', y1, y2, rfl, hy, hc'⟩ := HU.out k (by omega)
        have Hn := fun n => Hk.drewN n
        have In := fun n => Ik.drewN n
        obtain ⟨c0, c1⟩ := hc wr Hk
        obtain ⟨e0, e1⟩ := hc' wr Hk
        have EQ := fun W => neq_pair (x1, x2) (y1, y2) W
        obtain ⟨eq, heq⟩ : ∃ e, e = decide ((x1, x2) = (y1, y2)) := ⟨_, rfl⟩
        rw [← heq] at EQ
        have HE : Hid (eq = decide (l[k] = m[k]'(by omega))) := Lib.hid (by rw [heq, hx, hy])
        clear hc hc' hx hy heq
        simp only at EQ
        cases eq with
        | true =>
          have HS' : Hid (l.take (k + 1) = m.take (k + 1)) := Lib.hid (by rw [List.take_succ_eq_append_getElem hlt, List.take_succ_eq_append_getElem (by omega), hs.out, of_decide_eq_true HE.out.symm])
          simp only [Bool.not_true] at EQ
          clear HE hs
          go_wp2_with fail
          go_quiet (fail)
          go_wp2_with fail
          go_roundw
          case rel => exact ⟨k + 1, by omega, by go_num, HS', Hn _, In _⟩
          case measure => simp [intOf]; omega
        | false =>
          have fin := fun n => HH.out _ (Hn n) (In n)
          have hne : d = false := by
            rw [hd.out]
            refine decide_eq_false ?_
            rintro rfl
            exact of_decide_eq_false HE.out.symm rfl
          subst hne
          simp only [Bool.not_false] at EQ
          clear HE hs HH
          go_wp2_with fail
          go_quiet (fail)
          go_wp2_with fail
          exact fin _
      · obtain rfl : k = l.length := by omega
        have hge : ¬ (l.length : Int) < (l.length : Int) := by omega
        have he : d = true := by
          rw [hd.out]
          refine decide_eq_true ?_
          have := hs.out
          rwa [List.take_length, hn, List.take_length] at this
        subst he
        clear HV HU hs
        go_wp2_with fail
        exact HH.out _ Hk Ik
  · have hni : ¬ (l.length : Int) = (m.length : Int) := by omega
    obtain rfl : d = false := by rw [hd.out]; exact decide_eq_false (fun e => hn (e ▸ rfl))
    go_enter Tryz.func41, Tryz.ntmps41
    go_wp2_with fail
    exact HH.out _ H (Io.refl _)
end
end Go.Proofs.YtabpgejjnphfcaaGreat
