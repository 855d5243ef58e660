/-
  Edges: vertices, pairs made, compared, by their walks. It proves no statement by itself.
-/
import Derived.Test.YthbbdicdcmjpiaaGreatDoorR34
import Derived.Test.YthbbdicdcmjpiaaGreatDoorLShelf
import Derived.Shelf.SlSortCmp.WholeK
namespace Go.Proofs.YthbbdicdcmjpiaaGreatDoor
open Go.RowKit
set_option linter.unusedSimpArgs false
set_option linter.unusedVariables false

/-- What Vertex says. -/
def verE (v : Int) : Int := if 0 ≤ v ∧ v < 1048576 then 0 else 30
/-- What Make says. -/
def mkE (u v : Int) : Int := if verE u ≠ 0 ∨ verE v ≠ 0 then 30 else if u = v then 31 else 0
def mkP (u v : Int) : Pr := if mkE u v = 0 then (min u v, max u v) else (0, 0)

section
variable {F : Asn} {w : World} {R : Ending → World → Prop}
theorem vertex_any (v : Int) (h : R (.returned (.int .i64 (verE v))) w) : Calls Tryz.prog 65 #[.int .i64 v] w R := by
  unfold verE at h
  by_cases h0 : v < 0
  · rw [if_neg (by omega)] at h
    have hd : decide (v < 0) = true := by simpa using h0
    go_enter Tryz.func65, Tryz.ntmps65
    go_wp2_with fail
    exact h
  · have hd : decide (v < 0) = false := by simpa using h0
    by_cases h1 : v < 1048576
    · rw [if_pos ⟨by omega, h1⟩] at h
      go_enter Tryz.func65, Tryz.ntmps65
      go_wp2_with fail
      exact h
    · rw [if_neg (by omega)] at h
      have h1' : 1048576 ≤ v := by omega
      go_enter Tryz.func65, Tryz.ntmps65
      go_wp2_with fail
      exact h
theorem make_any (H : Sat F w) (u v : Int) (h : ∀ w', Sat F w' → Io w w' → R (.returned (.tuple #[.agg #[.int .i64 (mkP u v).1, .int .i64 (mkP u v).2], .int .i64 (mkE u v)])) w') :
    Calls Tryz.prog 40 #[.int .i64 u, .int .i64 v] w R := by
  unfold mkP mkE at h
  by_cases hu : verE u = 0
  · by_cases hv : verE v = 0
    · by_cases he : u = v
      · simp only [hu, hv, he, ne_eq, not_true_eq_false, or_self, if_false, if_true, Int.reduceEq] at h
        have HU := Lib.hid hu
        have HV := Lib.hid hv
        have hq : (u == v) = true := by rw [beq_iff_eq]; exact he
        clear hu hv he
        go_enter Tryz.func40, Tryz.ntmps40
        go_wp2_with (first | (go_at_call 65; with_reducible refine vertex_any u ?_; rw [HU.out]) | (go_at_call 65; with_reducible refine vertex_any v ?_; rw [HV.out]))
        exact bodyPost_ret (v := .tuple #[.agg #[.int .i64 0, .int .i64 0], .int .i64 31]) (by simp [results, Tryz.results40, go_sem]) rfl (h _ (H.new (.cells #[.int .i64 0, .int .i64 0] 35)).right ((Io.refl w).alloc _))
      · simp only [hu, hv, he, ne_eq, not_true_eq_false, or_self, if_false, if_true, Int.reduceEq] at h
        have HU := Lib.hid hu
        have HV := Lib.hid hv
        have hq : (u == v) = false := by rw [beq_eq_false_iff_ne]; exact he
        clear hu hv he
        go_enter Tryz.func40, Tryz.ntmps40
        go_wp2_with (first | (go_at_call 65; with_reducible refine vertex_any u ?_; rw [HU.out]) | (go_at_call 65; with_reducible refine vertex_any v ?_; rw [HV.out]))
        exact bodyPost_ret (v := .tuple #[.agg #[.int .i64 (min u v), .int .i64 (max u v)], .int .i64 0]) (by simp [results, Tryz.results40, go_sem]) rfl (h _ (H.new (.cells #[.int .i64 (min u v), .int .i64 (max u v)] 35)).right ((Io.refl w).alloc _))
    · have hv30 : verE v = 30 := by unfold verE at hv ⊢; split <;> simp_all
      simp only [hu, hv30, ne_eq, not_true_eq_false, Int.reduceEq, not_false_eq_true, or_true, if_true, if_false] at h
      have HU := Lib.hid hu
      have HV := Lib.hid hv30
      clear hu hv hv30
      go_enter Tryz.func40, Tryz.ntmps40
      go_wp2_with (first | (go_at_call 65; with_reducible refine vertex_any u ?_; rw [HU.out]) | (go_at_call 65; with_reducible refine vertex_any v ?_; rw [HV.out]))
      exact bodyPost_ret (v := .tuple #[.agg #[.int .i64 0, .int .i64 0], .int .i64 30]) (by simp [results, Tryz.results40, go_sem]) rfl (h _ (H.new (.cells #[.int .i64 0, .int .i64 0] 35)).right ((Io.refl w).alloc _))
  · have hu30 : verE u = 30 := by unfold verE at hu ⊢; split <;> simp_all
    simp only [hu30, ne_eq, Int.reduceEq, not_false_eq_true, true_or, if_true, if_false] at h
    have HU := Lib.hid hu30
    clear hu hu30
    go_enter Tryz.func40, Tryz.ntmps40
    go_wp2_with (first | (go_at_call 65; with_reducible refine vertex_any u ?_; rw [HU.out]))
    exact bodyPost_ret (v := .tuple #[.agg #[.int .i64 0, .int .i64 0], .int .i64 30]) (by simp [results, Tryz.results40, go_sem]) rfl (h _ (H.new (.cells #[.int .i64 0, .int .i64 0] 35)).right ((Io.refl w).alloc _))
end
end Go.Proofs.YthbbdicdcmjpiaaGreatDoor
