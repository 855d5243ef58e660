/-
  adj.Parse of any entry, the document's Wrong, Pair, Key, Parse, by walks. It proves no statement by itself.
-/
import Derived.Test.YthbbdicdcmjpiaaGreatDoorP42
namespace Go.Proofs.YthbbdicdcmjpiaaGreatDoor
open Go.RowKit Go.Lib
set_option linter.unusedSimpArgs false
set_option linter.unusedVariables false
set_option linter.unusedSectionVars false
section
variable {F : Asn} {w : World} {R : Ending → World → Prop}
set_option maxRecDepth 100000 in
theorem rvtx_any (v : Int) (H : Sat F w) {d : Bool} (hd : Hid (d = Md.vtx v)) (h : ∀ w', Sat F w' → Io w w' → R (.returned (.bool d)) w') : Calls Tryz.prog 39 #[.int .i64 v] w R := by
  have hx := hd.out
  unfold Md.vtx at hx
  have HH := Lib.hid h
  clear h hd
  by_cases h0 : 0 ≤ v
  · by_cases h1 : v < 1048576
    · rw [decide_eq_true ⟨h0, h1⟩] at hx
      subst hx
      go_enter Tryz.func39, Tryz.ntmps39
      go_wp2_with fail
      exact HH.out _ H (Io.refl _)
    · rw [decide_eq_false (fun h => h1 h.2)] at hx
      subst hx
      go_enter Tryz.func39, Tryz.ntmps39
      go_wp2_with fail
      exact HH.out _ H (Io.refl _)
  · rw [decide_eq_false (fun h => h0 h.1)] at hx
    subst hx
    go_enter Tryz.func39, Tryz.ntmps39
    go_wp2_with fail
    exact HH.out _ H (Io.refl _)
set_option maxRecDepth 100000 in
theorem rwrong_any (u v : Int) (H : Sat F w) {e : Int} (he : Hid (e = Md.wrong u v)) (h : ∀ w', Sat F w' → Io w w' → R (.returned (.int .i64 e)) w') : Calls Tryz.prog 10 #[.int .i64 u, .int .i64 v] w R := by
  have hx := he.out
  have HH := Lib.hid h
  obtain ⟨d1, h1⟩ : ∃ d, d = Md.vtx u := ⟨_, rfl⟩
  obtain ⟨d2, h2⟩ : ∃ d, d = Md.vtx v := ⟨_, rfl⟩
  have HD1 := Lib.hid h1
  have HD2 := Lib.hid h2
  unfold Md.wrong at hx
  rw [← h1, ← h2] at hx
  clear h he h1 h2
  cases d1 with
  | false =>
    simp only [Bool.false_and, Bool.false_eq_true, if_false] at hx
    subst hx
    go_enter Tryz.func10, Tryz.ntmps10
    go_wp2_with (go_at_call 39; with_reducible refine rvtx_any u H HD1 ?_; intro w1 H1 I1)
    exact HH.out _ H1 I1
  | true =>
    cases d2 with
    | false =>
      simp only [Bool.and_false, Bool.false_eq_true, if_false] at hx
      subst hx
      go_enter Tryz.func10, Tryz.ntmps10
      go_wp2_with (go_at_call 39; first | (with_reducible refine rvtx_any u H HD1 ?_; intro w1 H1 I1) | (with_reducible refine rvtx_any v H1 HD2 ?_; intro w2 H2 I2))
      exact HH.out _ H2 (I1.trans I2)
    | true =>
      simp only [Bool.and_self, if_true] at hx
      by_cases e2 : u = v
      · rw [if_pos e2] at hx
        subst e2
        subst hx
        go_enter Tryz.func10, Tryz.ntmps10
        go_wp2_with (go_at_call 39; first | (with_reducible refine rvtx_any u H1 HD2 ?_; intro w2 H2 I2) | (with_reducible refine rvtx_any u H HD1 ?_; intro w1 H1 I1))
        exact HH.out _ H2 (I1.trans I2)
      · rw [if_neg e2] at hx
        subst hx
        go_enter Tryz.func10, Tryz.ntmps10
        go_wp2_with (go_at_call 39; first | (with_reducible refine rvtx_any u H HD1 ?_; intro w1 H1 I1) | (with_reducible refine rvtx_any v H1 HD2 ?_; intro w2 H2 I2))
        exact HH.out _ H2 (I1.trans I2)
set_option maxRecDepth 100000 in
theorem rpair_any (u v : Int) (H : Sat F w) {a b : Int} (he : Hid (Md.pair u v = (a, b))) (h : ∀ w', Sat F w' → Io w w' → R (.returned (.agg #[.int .i64 a, .int .i64 b])) w') : Calls Tryz.prog 9 #[.int .i64 u, .int .i64 v] w R := by
  have hx := he.out
  unfold Md.pair at hx
  simp only [Prod.mk.injEq] at hx
  obtain ⟨hx1, hx2⟩ := hx
  have HH := Lib.hid h
  have H1 : Sat (pts w.heap.size (.cells #[.int .i64 a, .int .i64 b] 35 (0, 0)) * F) (w.alloc (.cells #[.int .i64 a, .int .i64 b] 35)) := H.new _
  have I1 := (Io.refl w).alloc (.cells #[.int .i64 a, .int .i64 b] 35)
  clear he h
  subst hx1 hx2
  go_enter Tryz.func9, Tryz.ntmps9
  go_wp2_with fail
  obtain ⟨q0, q1⟩ := (⟨Sat.read H1.left.at 0, Sat.read H1.left.at 1⟩ : (w.alloc (.cells #[.int .i64 (min u v), .int .i64 (max u v)] 35)).cell? ⟨w.heap.size, 0, none⟩ = some (.int .i64 (min u v)) ∧ (w.alloc (.cells #[.int .i64 (min u v), .int .i64 (max u v)] 35)).cell? ⟨w.heap.size, 1, none⟩ = some (.int .i64 (max u v)))
  exact bodyPost_ret (v := .agg #[.int .i64 (min u v), .int .i64 (max u v)]) (by simp [results, Tryz.results9, go_sem, q0, q1]) rfl (HH.out _ H1.right I1)
end
namespace Aj
open Ky
end Aj
section
variable {F : Asn} {w : World} {R : Ending → World → Prop}
end
end Go.Proofs.YthbbdicdcmjpiaaGreatDoor
