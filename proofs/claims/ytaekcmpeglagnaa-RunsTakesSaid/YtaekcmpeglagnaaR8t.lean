/-
  Runs: RunsTakes, by its walk. It proves no statement by itself.
-/
import Derived.Test.YtaekcmpeglagnaaRw8
import Derived.Test.YtaekcmpeglagnaaR8c
namespace Go.Proofs.Ytaekcmpeglagnaa
open Go.RowKit Go.Lib
set_option linter.unusedSimpArgs false
set_option linter.unusedVariables false

section
variable {F : Asn} {w : World} {R : Ending → World → Prop}
theorem Rs.count_pos {s : List Rn} {k : Int} (h : Rs.Has s k) : 0 < Rs.count s := by
  have h1 := Rs.take_count h
  have h2 := (Rs.count_range (Rs.minus s [(k, k)])).1
  omega
theorem Rs.has_head {r : Rn} {t : List Rn} (h : Rs.Canon (r :: t)) : Rs.Has (r :: t) r.1 := by
  rw [Rs.has_canon h, Rs.mem_cons]
  have := (Rs.canon_cons.1 h).1
  exact .inl ⟨Int.le_refl _, this.2.1⟩
set_option maxRecDepth 100000 in
set_option maxHeartbeats 8000000 in
theorem runsTakes_any {a : List Rn} {va : Value} (n : Int) (ha : ReadsR F va a) (H : Sat F w) (h : ∀ w', Sat F w' → Io w w' → R (.returned (.bool true)) w') : Calls Try.prog 6 #[va, .int .i64 n] w R := by
  have HH := Lib.hid h
  clear h
  obtain ⟨aa, ac, rfl, am⟩ := readsR_len ha
  by_cases len_a : a.length ≤ 40
  · have qa : ¬ (40 : Int) < (a.length : Int) := by omega
    have l7 := Rs.norm_len a
    obtain ⟨c0, HC0⟩ : ∃ c, Hid (c = Rs.count (Rs.norm a)) := ⟨_, Lib.hid rfl⟩
    go_enter Try.func6, Try.ntmps6
    go_wp2_with (first
      | (go_at_call 9; with_reducible refine works_any H ?_; intro w1 H1 I1)
      | (go_at_call 19; with_reducible refine norm_any ha (by omega) H1 ?_; intro v2 w2 H2 I2; have r2 := Reads.of_row H2 (by omega); obtain ⟨sa, sc, rfl, sm⟩ := readsR_len r2)
      | (go_at_call 14; with_reducible refine count_any r2 (by omega) HC0 H2 ?_; intro w3 H3 I3))
    go_loopw [6, 7, 8, 9] (fun x y z t wr => ∃ (k : Nat) (S : List Rn) (lst c : Int), k ≤ 60 ∧ t = .int .i64 (k : Int) ∧ y = .int .i64 lst ∧ z = .int .i64 c ∧ (-1 ≤ lst ∧ lst ≤ 4294967295) ∧ S.length ≤ 40 + k ∧ Hid (Rs.Canon S) ∧ Hid (c = Rs.count S) ∧ Hid (∀ q, Rs.Has S q → lst < q ∧ Rs.Has a q) ∧ Sat (RowR x S * F) wr ∧ Io w wr) (fun _ _ _ t _ => 60 - (intOf t).toNat)
    case atStart => exact ⟨0, _, -1, c0, by omega, rfl, rfl, rfl, by omega, by omega, Lib.hid (Rs.canon_norm a), HC0, Lib.hid (fun q hq => ⟨by have := hq.1; omega, (Rs.has_norm a q).1 hq⟩), H3, (I1.trans I2).trans I3⟩
    case round =>
      obtain ⟨k, S, lst, c, hk, rfl, rfl, rfl, hlst, hSl, HC, Hc, Hq, Hk, Ik⟩ := hrel
      have rS := Reads.of_row Hk (by omega)
      obtain ⟨ea, ec, rfl, em⟩ := readsR_len rS
      clear H1 H2 H3
      by_cases hlt : (k : Int) < min n 60
      · cases S with
        | nil =>
          obtain rfl : c = 0 := Hc.out
          have HF : Hid (firstOf (Rs.norm []) = (0, false)) := Lib.hid rfl
          go_wp2_with (go_at_call 11; with_reducible refine first_any rS (by omega) HF Hk ?_; intro w4 H4 I4)
          exact HH.out _ H4.right (Ik.trans I4)
        | cons r t =>
          have hh := Rs.has_head HC.out
          have hp := Rs.count_pos hh
          have hr := Rs.count_range (r :: t)
          rw [← Hc.out] at hp hr
          obtain ⟨q1, q2⟩ := Hq.out _ hh
          have rng := hh.2.1
          simp only [Rs.most] at rng hr
          obtain ⟨hr0, hr1⟩ := hr
          have HF : Hid (firstOf (Rs.norm (r :: t)) = (r.1, true)) := Lib.hid (by rw [Rs.norm_same HC.out]; rfl)
          have HA : Hid (true = decide (Rs.Has a r.1)) := Lib.hid (decide_eq_true q2).symm
          have l9 := Rs.minus_len (r :: t) [(r.1, r.1)]
          have HC' : Hid (Rs.Canon (Rs.minus (r :: t) [(r.1, r.1)])) := Lib.hid (Rs.canon_minus _ _)
          have Hc' : Hid (c - 1 = Rs.count (Rs.minus (r :: t) [(r.1, r.1)])) := Lib.hid (by rw [Rs.take_count hh, Hc.out])
          have Hq' : Hid (∀ q, Rs.Has (Rs.minus (r :: t) [(r.1, r.1)]) q → r.1 < q ∧ Rs.Has a q) := Lib.hid (fun q hq => by
            obtain ⟨h1, h2⟩ := (Rs.take_has _ _ _).1 hq
            have := Rs.head_least HC.out ((Rs.has_canon HC.out q).1 h1)
            exact ⟨by omega, (Hq.out q h1).2⟩)
          obtain ⟨x1, x2⟩ := r
          generalize hS : ((x1, x2) :: t : List Rn) = S at *
          simp only at *
          generalize hS' : Rs.minus S [(x1, x1)] = S' at *
          simp only [List.length_cons, List.length_nil, Nat.zero_add] at l9
          clear hh q2
          have qn : ¬ x1 ≤ lst := by omega
          go_wp2_with (first
            | (go_at_call 11; with_reducible refine first_any rS (by omega) HF Hk ?_; intro w4 H4 I4)
            | (go_at_call 12; with_reducible refine has_any ha.with x1 HA H4 ?_; intro w5 H5 I5)
            | (go_at_call 23; with_reducible refine remove_any rS (by omega) x1 H5 ?_; intro v6 w6 H6 I6; rw [hS'] at H6; have r6 := Reads.of_row H6 (by omega))
            | (go_at_call 14; with_reducible refine count_any r6 (by omega) Hc' H6 ?_; intro w7 H7 I7))
          go_roundw
          case rel => exact ⟨k + 1, S', x1, c - 1, by omega, by go_num, by go_num, by go_num, by omega, by omega, HC', Hc', Hq', H7.mid, ((Ik.trans I4).trans I5).trans (I6.trans I7)⟩
          case measure => simp [intOf]; omega
      · go_wp2_with fail
        exact HH.out _ Hk.right Ik
  · have qa : (40 : Int) < (a.length : Int) := by omega
    go_enter Try.func6, Try.ntmps6
    go_wp2_with (go_at_call 9; with_reducible refine works_any H ?_; intro w1 H1 I1)
    exact HH.out _ H1 I1
end
end Go.Proofs.Ytaekcmpeglagnaa
