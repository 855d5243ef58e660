/-
  The document's lists of pairs: Less, Has, by their walks. It proves no statement by itself.
-/
import Derived.Test.YtmacannchaalaaaE3p
namespace Go.Proofs.Ytmacannchaalaaa
open Go.RowKit
set_option linter.unusedSimpArgs false
set_option linter.unusedVariables false

theorem readsP_at {F : Asn} {a : Option Addr} {n c : Nat} {l : List Pr} (hl : ReadsP F (.slice a n c) l) (k : Nat) (hk : k < l.length) : ∃ b off, a = some ⟨b, off, none⟩ ∧ ∀ w, Sat F w →
    w.cell? ⟨b, off + k * 2, none⟩ = some (.int .i64 l[k].1) ∧ w.cell? ⟨b, off + k * 2 + 1, none⟩ = some (.int .i64 l[k].2) := by
  obtain ⟨a', c', h1, _, h3⟩ := hl
  cases h1
  rcases h3 with rfl | ⟨b, off, e, h3⟩
  · simp at hk
  · refine ⟨b, off, e, fun w hw => ⟨?_, ?_⟩⟩
    · have := h3 w hw (2 * k) _ (pv_get0 l k hk)
      rwa [Nat.mul_comm 2 k] at this
    · have := h3 w hw (2 * k + 1) _ (pv_get1 l k hk)
      rwa [Nat.mul_comm 2 k, ← Nat.add_assoc] at this

section
variable {F : Asn} {w : World} {R : Ending → World → Prop} {l : List Pr} {v : Value}
set_option maxRecDepth 100000 in
set_option maxHeartbeats 1000000 in
theorem rhas_any (hv : ReadsP F v l) (p : Pr) (H : Sat F w) (h : ∀ w', Sat F w' → Io w w' → R (.returned (.bool (decide (p ∈ l)))) w') :
    Calls Try.prog 23 #[v, .agg #[.int .i64 p.1, .int .i64 p.2]] w R := by
  obtain ⟨a, c, rfl, hm, _⟩ := id hv
  have hm' : (l.length : Int) ≤ 9223372036854775807 := by omega
  have HV := Lib.hid (fun k hk => readsP_at hv k hk)
  have HH := Lib.hid h
  clear h hv hm
  obtain ⟨p1, p2⟩ := p
  have HP := H.new (.cells #[.int .i64 p1, .int .i64 p2] 25)
  have IP := (Io.refl w).alloc (.cells #[.int .i64 p1, .int .i64 p2] 25)
  go_enter Try.func23, Try.ntmps23
  go_wp2_with fail
  generalize w.alloc (.cells #[.int .i64 p1, .int .i64 p2] 25) = w0 at *
  generalize w.heap.size = bp at *
  go_loopw [5] (fun x wr => ∃ k : Nat, k ≤ l.length ∧ x = .int .i64 (k : Int) ∧ (p1, p2) ∉ l.take k ∧ Sat (pts bp (.cells #[.int .i64 p1, .int .i64 p2] 25 (0, 0)) * F) wr ∧ Io w wr) (fun x _ => l.length - (intOf x).toNat)
  case atStart => exact ⟨0, by omega, rfl, by simp, HP, IP⟩
  case round =>
    obtain ⟨k, hk, rfl, hn, Hk, Ik⟩ := hrel
    clear HP IP
    have HN := Lib.hid hn
    clear hn
    by_cases hlt : k < l.length
    · have hlti : (k : Int) < (l.length : Int) := by omega
      obtain ⟨b, off, rfl, hc⟩ := HV.out k hlt
      obtain ⟨c0, c1⟩ := hc wr Hk.right
      have q0 := Sat.read Hk.left.at 0
      have q1 := Sat.read Hk.left.at 1
      have lq := Hk.left.lt
      simp only [List.getElem?_toArray, List.getElem?_cons_zero, List.getElem?_cons_succ] at q0 q1
      obtain ⟨x, hx⟩ : ∃ x, x = l[k] := ⟨_, rfl⟩
      rw [← hx] at c0 c1
      have HX := Lib.hid hx
      have EQ := fun W => eql_pair x (p1, p2) W
      obtain ⟨x1, x2⟩ := x
      obtain ⟨eq, heq⟩ : ∃ e, e = decide ((x1, x2) = (p1, p2)) := ⟨_, rfl⟩
      rw [← heq] at EQ
      have HE := Lib.hid heq
      clear hc hx heq
      simp only at EQ c0 c1
      cases eq with
      | true =>
        have hin : (p1, p2) ∈ l := by
          have := of_decide_eq_true HE.out.symm
          rw [← this, HX.out]
          exact List.getElem_mem hlt
        have fin := fun n => HH.out (wr.drewN n) (Hk.right.drewN n) (Ik.drewN n)
        simp only [hin, decide_true] at fin
        clear HH HE HX hin
        go_wp2_with fail
        go_quiet (fail)
        go_wp2_with fail
        exact fin _
      | false =>
        have hnx : (p1, p2) ∉ l.take (k + 1) := by
          rw [List.take_succ_eq_append_getElem hlt, List.mem_append, List.mem_singleton, ← HX.out]
          rintro (h | h)
          · exact HN.out h
          · exact of_decide_eq_false HE.out.symm h.symm
        have HNX := Lib.hid hnx
        clear hnx HE HX
        go_wp2_with fail
        go_quiet (fail)
        go_wp2_with fail
        go_roundw
        case rel => exact ⟨k + 1, by omega, by go_num, HNX.out, Hk.drewN _, Ik.drewN _⟩
        case measure => simp [intOf]; omega
    · obtain rfl : k = l.length := by omega
      have hge : ¬ (l.length : Int) < (l.length : Int) := by omega
      have fin := HH.out wr Hk.right Ik
      have hn := HN.out
      rw [List.take_length] at hn
      simp only [hn, decide_false] at fin
      clear HH HN hn HV
      go_wp2_with fail
      exact fin

set_option maxRecDepth 100000 in
theorem rless_any (a b : Pr) (H : Sat F w) (h : ∀ w', Sat F w' → Io w w' → R (.returned (.bool (Eg.less a b))) w') :
    Calls Try.prog 19 #[.agg #[.int .i64 a.1, .int .i64 a.2], .agg #[.int .i64 b.1, .int .i64 b.2]] w R := by
  obtain ⟨a1, a2⟩ := a
  obtain ⟨b1, b2⟩ := b
  have fin := h _ ((H.new (.cells #[.int .i64 a1, .int .i64 a2] 25)).new (.cells #[.int .i64 b1, .int .i64 b2] 25)).right.right (((Io.refl w).alloc _).alloc _)
  have e : Eg.less (a1, a2) (b1, b2) = (decide (a1 < b1) || (a1 == b1 && decide (a2 < b2))) := rfl
  rw [e] at fin
  clear h H e
  by_cases h1 : a1 < b1
  · have d1 : decide (a1 < b1) = true := by simpa using h1
    simp only [d1, Bool.true_or] at fin
    go_enter Try.func19, Try.ntmps19
    go_wp2_with fail
    exact fin
  · have d1 : decide (a1 < b1) = false := by simpa using h1
    by_cases h2 : a1 = b1
    · subst h2
      have d2 : (a1 == a1) = true := by simp
      by_cases h3 : a2 < b2
      · have d3 : decide (a2 < b2) = true := by simpa using h3
        simp only [d1, d2, d3, Bool.false_or, Bool.true_and] at fin
        go_enter Try.func19, Try.ntmps19
        go_wp2_with fail
        exact fin
      · have d3 : decide (a2 < b2) = false := by simpa using h3
        simp only [d1, d2, d3, Bool.false_or, Bool.true_and] at fin
        go_enter Try.func19, Try.ntmps19
        go_wp2_with fail
        exact fin
    · have d2 : (a1 == b1) = false := by simpa using h2
      simp only [d1, d2, Bool.false_or, Bool.false_and] at fin
      go_enter Try.func19, Try.ntmps19
      go_wp2_with fail
      exact fin
end
end Go.Proofs.Ytmacannchaalaaa
