/-
  How roots that came in read. It proves no statement by itself.
-/
import Derived.Test.YtghpfepmkngfdaaDoorLawK
import Derived.Test.YtghpfepmkngfdaaDoorRtC
namespace Go.Proofs.YtghpfepmkngfdaaDoor
open Go.ChangeShapes Go.WideShapes Go.ChangeAt Go.RowKit Go.Deep Go.Joins
set_option linter.unusedSimpArgs false
set_option linter.unusedVariables false

theorem wf_i64 {x : Int} (h : (Lit.int .i64 x).wf = true) : -9223372036854775808 ≤ x ∧ x ≤ 9223372036854775807 := by
  simpa [Lit.wf, IntKind.min, IntKind.max, IntKind.signed, IntKind.bits] using h

theorem cells_root : Tryd.prog.cellsOf 23 = 5 := by kernel_rfl

set_option maxRecDepth 100000 in
/-- A root that came in. -/
theorem root_of {H : Type} {enc : TypeId × Value → H} {W : World} {r : Reach} {b0 : Nat} {sp : Nat → Bool} {held : Bool} {v : Value} {d : DataW H} {p : List MemPlace}
    (hv : Value.okWide Tryd.prog W r b0 23 v) (h : DataW.Trod enc Tryd.prog W 0 sp held 23 v d p) : ∃ x : Rt, v = x.val ∧ x.mach := by
  obtain ⟨v0, v1, v2, v3, v4, y0, y1, y2, y3, y4, n, rfl, _, _, h0, h1, h2, h3, h4⟩ := open_agg5 Tryd.underlying23 (by kernel_rfl) cells_root hv h
  obtain ⟨e, e0, _, b0⟩ := DataW.trod_int Tryd.underlying3 h0
  obtain ⟨q, e1, _, b1⟩ := DataW.trod_int Tryd.underlying3 h1
  obtain ⟨c, e2, _, b2⟩ := DataW.trod_int Tryd.underlying3 h2
  obtain ⟨f, e3, _, b3⟩ := DataW.trod_int Tryd.underlying3 h3
  obtain ⟨m, e4, _, b4⟩ := DataW.trod_int Tryd.underlying3 h4
  simp only [List.cons.injEq, and_true] at e0 e1 e2 e3 e4
  subst e0 e1 e2 e3 e4
  refine ⟨⟨e, q, c, f, m⟩, rfl, ?_⟩
  have k0 := wf_i64 b0
  have k1 := wf_i64 b1
  have k2 := wf_i64 b2
  have k3 := wf_i64 b3
  have k4 := wf_i64 b4
  intro x hx
  simp only [Rt.nums, List.mem_cons, List.not_mem_nil, or_false] at hx
  omega
end Go.Proofs.YtghpfepmkngfdaaDoor
