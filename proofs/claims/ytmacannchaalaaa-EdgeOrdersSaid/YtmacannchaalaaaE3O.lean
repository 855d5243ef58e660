/-
  Edges: the statements of making and of keys, by their walks. It proves no statement by itself.
-/
import Derived.Test.YtmacannchaalaaaE3I
namespace Go.Proofs.Ytmacannchaalaaa
open Go.RowKit
set_option linter.unusedSimpArgs false
set_option linter.unusedVariables false

section
variable {F : Asn} {w : World} {R : Ending → World → Prop}
theorem rvertex_d (v : Int) {e : Int} (he : Hid (verE v = e)) (h : R (.returned (.bool (decide (e = 0)))) w) : Calls Try.prog 12 #[.int .i64 v] w R := rvertex_any v (by rw [he.out]; exact h)
theorem vertex_d (v : Int) {e : Int} (he : Hid (verE v = e)) (h : R (.returned (.int .i64 e)) w) : Calls Try.prog 14 #[.int .i64 v] w R := vertex_any v (by rw [he.out]; exact h)
set_option maxRecDepth 100000 in
set_option maxHeartbeats 4000000 in
theorem edgeMakes_any (u v : Int) (H : Sat F w) (h : ∀ w', Sat F w' → Io w w' → R (.returned (.bool true)) w') : Calls Try.prog 3 #[.int .i64 u, .int .i64 v] w R := by
  have HH := Lib.hid h
  clear h
  by_cases hu : verE u = 0
  · by_cases hv : verE v = 0
    · by_cases huv : u = v
      · subst huv
        have HU := Lib.hid hu
        have HV := Lib.hid hv
        have E := Lib.hid (show mkE u u = 31 from by unfold mkE; rw [hu, if_neg (by simp), if_pos rfl])
        have M := Lib.hid (show mkP u u = (0, 0) from by unfold mkP; rw [if_neg (by rw [E.out]; decide)])
        have Q := fun W => eql_pair (0, 0) (0, 0) W
        simp only [decide_true] at Q
        clear hu hv
        go_enter Try.func3, Try.ntmps3
        go_wp2_with (first
          | (go_at_call 11; with_reducible refine works_any H ?_; intro w1 H1 I1)
          | (go_at_call 12; first | (with_reducible refine rvertex_d u HU ?_))
          | (go_at_call 14; with_reducible refine vertex_d u HU ?_)
          | (go_at_call 13; with_reducible refine make_any H1 u u ?_; intro w2 H2 I2; rw [M.out, E.out]; have B := H2.new (.cells #[.int .i64 0, .int .i64 0] 25); have IB := (I1.trans I2).alloc (.cells #[.int .i64 0, .int .i64 0] 25); obtain ⟨z0, z1⟩ := box_cells B))
        exact HH.out _ B.right IB
      · have HU := Lib.hid hu
        have HV := Lib.hid hv
        have E := Lib.hid (show mkE u v = 0 from by unfold mkE; rw [hu, hv, if_neg (by simp), if_neg huv])
        have M := Lib.hid (show mkP u v = (min u v, max u v) from by unfold mkP; rw [if_pos E.out])
        have Q := fun W => eql_pair (min u v, max u v) (min u v, max u v) W
        simp only [decide_true] at Q
        clear hu hv
        have hb : (u == v) = false := by rw [beq_eq_false_iff_ne]; exact huv
        go_enter Try.func3, Try.ntmps3
        go_wp2_with (first
          | (go_at_call 11; with_reducible refine works_any H ?_; intro w1 H1 I1)
          | (go_at_call 12; first | (with_reducible refine rvertex_d u HU ?_) | (with_reducible refine rvertex_d v HV ?_))
          | (go_at_call 14; with_reducible refine vertex_d u HU ?_)
          | (go_at_call 13; with_reducible refine make_any H1 u v ?_; intro w2 H2 I2; rw [M.out, E.out]; have B := H2.new (.cells #[.int .i64 (min u v), .int .i64 (max u v)] 25); have IB := (I1.trans I2).alloc (.cells #[.int .i64 (min u v), .int .i64 (max u v)] 25); obtain ⟨z0, z1⟩ := box_cells B))
        exact HH.out _ B.right IB
    · have HU := Lib.hid hu
      have HV := Lib.hid (ver_else hv)
      have E := Lib.hid (show mkE u v = 30 from by unfold mkE; rw [if_pos (.inr hv)])
      have M := Lib.hid (show mkP u v = (0, 0) from by unfold mkP; rw [if_neg (by rw [E.out]; decide)])
      have Q := fun W => eql_pair (0, 0) (0, 0) W
      simp only [decide_true] at Q
      clear hu hv
      go_enter Try.func3, Try.ntmps3
      go_wp2_with (first
        | (go_at_call 11; with_reducible refine works_any H ?_; intro w1 H1 I1)
        | (go_at_call 12; first | (with_reducible refine rvertex_d u HU ?_) | (with_reducible refine rvertex_d v HV ?_))
        | (go_at_call 14; with_reducible refine vertex_d u HU ?_)
        | (go_at_call 13; with_reducible refine make_any H1 u v ?_; intro w2 H2 I2; rw [M.out, E.out]; have B := H2.new (.cells #[.int .i64 0, .int .i64 0] 25); have IB := (I1.trans I2).alloc (.cells #[.int .i64 0, .int .i64 0] 25); obtain ⟨z0, z1⟩ := box_cells B))
      exact HH.out _ B.right IB
  · have HU := Lib.hid (ver_else hu)
    obtain ⟨ev, hev⟩ : ∃ ev, ev = verE v := ⟨_, rfl⟩
    have HV : Hid (verE v = ev) := Lib.hid hev.symm
    have E := Lib.hid (show mkE u v = 30 from by unfold mkE; rw [if_pos (.inl hu)])
    have M := Lib.hid (show mkP u v = (0, 0) from by unfold mkP; rw [if_neg (by rw [E.out]; decide)])
    have Q := fun W => eql_pair (0, 0) (0, 0) W
    simp only [decide_true] at Q
    clear hu hev
    go_enter Try.func3, Try.ntmps3
    go_wp2_with (first
      | (go_at_call 11; with_reducible refine works_any H ?_; intro w1 H1 I1)
      | (go_at_call 12; first | (with_reducible refine rvertex_d u HU ?_) | (with_reducible refine rvertex_d v HV ?_))
      | (go_at_call 14; with_reducible refine vertex_d u HU ?_)
      | (go_at_call 13; with_reducible refine make_any H1 u v ?_; intro w2 H2 I2; rw [M.out, E.out]; have B := H2.new (.cells #[.int .i64 0, .int .i64 0] 25); have IB := (I1.trans I2).alloc (.cells #[.int .i64 0, .int .i64 0] 25); obtain ⟨z0, z1⟩ := box_cells B))
    exact HH.out _ B.right IB
end
end Go.Proofs.Ytmacannchaalaaa
