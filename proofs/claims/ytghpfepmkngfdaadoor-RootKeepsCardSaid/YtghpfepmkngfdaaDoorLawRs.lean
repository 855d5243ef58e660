/-
  How a row of roots that came in reads. It proves no statement by itself.
-/
import Derived.Test.YtghpfepmkngfdaaDoorLawR
namespace Go.Proofs.YtghpfepmkngfdaaDoor
open Go.ChangeShapes Go.WideShapes Go.ChangeAt Go.RowKit Go.Deep Go.Joins
set_option linter.unusedSimpArgs false
set_option linter.unusedVariables false

/-- A slice value that reads as these roots, wherever F holds. -/
def ReadsRoots (F : Asn) (v : Value) (l : List Rt) : Prop :=
  ∃ a c, v = .slice a l.length c ∧ l.length ≤ 9223372036854775807 ∧ (l.length = 0 ∨ ∃ b off, a = some ⟨b, off, none⟩ ∧ ∀ w, Sat F w → ∀ i (h : i < l.length),
    w.cell? ⟨b, off + i * 5, none⟩ = some (.int .i64 l[i].e) ∧ w.cell? ⟨b, off + i * 5 + 1, none⟩ = some (.int .i64 l[i].p) ∧ w.cell? ⟨b, off + i * 5 + 2, none⟩ = some (.int .i64 l[i].c) ∧
    w.cell? ⟨b, off + i * 5 + 3, none⟩ = some (.int .i64 l[i].f) ∧ w.cell? ⟨b, off + i * 5 + 4, none⟩ = some (.int .i64 l[i].n))

section
variable {H : Type} {enc : TypeId × Value → H} {W : World}

set_option maxRecDepth 100000 in
theorem root_cells {base : Nat} {sp : Nat → Bool} {held : Bool} {fuel : Nat} {cs : List Value} {x : DataW H × List MemPlace}
    (h : DataW.trod enc Tryd.prog W base sp held fuel 23 cs = some x) : ∃ r : Rt, cs = [.int .i64 r.e, .int .i64 r.p, .int .i64 r.c, .int .i64 r.f, .int .i64 r.n] := by
  obtain ⟨xs, n, _, _, hlen, hxl, hf⟩ := DataW.trod_struct Tryd.underlying23 h
  rw [cells_root] at hlen
  have c1 : Tryd.prog.cellsOf 3 = 1 := by kernel_rfl
  match cs, hlen with
  | [c0, c1', c2, c3, c4], _ =>
    have g0 : DataW.trod enc Tryd.prog W base sp held n 3 (([c0, c1', c2, c3, c4].drop 0).take (Tryd.prog.cellsOf 3)) = xs[0]? := hf 0 _ rfl
    have g1 : DataW.trod enc Tryd.prog W base sp held n 3 (([c0, c1', c2, c3, c4].drop 1).take (Tryd.prog.cellsOf 3)) = xs[1]? := hf 1 _ rfl
    have g2 : DataW.trod enc Tryd.prog W base sp held n 3 (([c0, c1', c2, c3, c4].drop 2).take (Tryd.prog.cellsOf 3)) = xs[2]? := hf 2 _ rfl
    have g3 : DataW.trod enc Tryd.prog W base sp held n 3 (([c0, c1', c2, c3, c4].drop 3).take (Tryd.prog.cellsOf 3)) = xs[3]? := hf 3 _ rfl
    have g4 : DataW.trod enc Tryd.prog W base sp held n 3 (([c0, c1', c2, c3, c4].drop 4).take (Tryd.prog.cellsOf 3)) = xs[4]? := hf 4 _ rfl
    rw [c1] at g0 g1 g2 g3 g4
    have hx : xs.length = 5 := hxl
    match xs, hx with
    | [x0, x1, x2, x3, x4], _ =>
      simp only [List.drop_zero, List.drop_succ_cons, List.take_succ_cons, List.take_zero, List.getElem?_cons_zero, List.getElem?_cons_succ] at g0 g1 g2 g3 g4
      obtain ⟨z0, e0, _⟩ := DataW.trod_int Tryd.underlying3 g0
      obtain ⟨z1, e1, _⟩ := DataW.trod_int Tryd.underlying3 g1
      obtain ⟨z2, e2, _⟩ := DataW.trod_int Tryd.underlying3 g2
      obtain ⟨z3, e3, _⟩ := DataW.trod_int Tryd.underlying3 g3
      obtain ⟨z4, e4, _⟩ := DataW.trod_int Tryd.underlying3 g4
      simp only [List.cons.injEq, and_true] at e0 e1 e2 e3 e4
      subst e0 e1 e2 e3 e4
      exact ⟨⟨z0, z1, z2, z3, z4⟩, rfl⟩

set_option maxRecDepth 100000 in
/-- A row of roots that came in. -/
theorem roots_of {r : Reach} {b0 : Nat} {base : Nat} {sp : Nat → Bool} {held : Bool} {fuel : Nat} {v : Value} {x : DataW H × List MemPlace} (hv : Value.okWide Tryd.prog W r b0 45 v)
    (h : DataW.trod enc Tryd.prog W base sp held fuel 45 [v] = some x) : ∃ l, ReadsRoots (whole W) v l := by
  rcases open_slice Tryd.underlying45 h with ⟨hv, _⟩ | ⟨a, len, cap, m, n, D, Pl, hv, _, hl, hm, hmm, _, hi⟩
  · cases hv
    exact ⟨[], none, 0, rfl, by simp, .inl rfl⟩
  · cases hv
    have hlm : len ≤ m := by rw [hmm]; split <;> omega
    rw [cells_root] at hi
    have : Inhabited Rt := ⟨Rt.zero⟩
    obtain ⟨g, hg⟩ := choose_lt (n := len) (p := fun i (z : Rt) => W.cells? base (a.add (i * 5)) 5 = some [.int .i64 z.e, .int .i64 z.p, .int .i64 z.c, .int .i64 z.f, .int .i64 z.n]) (fun i hi' => by
      obtain ⟨cs', h1, h2⟩ := hi i (by omega)
      obtain ⟨z, rfl⟩ := root_cells h2
      exact ⟨z, h1⟩)
    have hll : ((List.range len).map g).length = len := by simp
    refine ⟨(List.range len).map g, some a, cap, by rw [hll], by unfold maxLen at hm; omega, ?_⟩
    rcases Nat.eq_zero_or_pos len with h0 | h0
    · exact .inl (by rw [hll]; exact h0)
    · right
      have c0 := hg 0 h0
      obtain ⟨_, _, c0⟩ := World.cells?_some c0
      have c00 := c0 0 (by omega)
      have hsp : a.spot = none := by
        cases hs : a.spot with
        | none => rfl
        | some k => simp [Addr.add, World.cell?, hs] at c00; split at c00 <;> simp_all
      obtain ⟨b, off, spot⟩ := a
      simp only at hsp
      subst hsp
      refine ⟨b, off, rfl, fun w hw i hi' => ?_⟩
      have hil : i < len := by rw [hll] at hi'; exact hi'
      have ci := hg i hil
      obtain ⟨_, _, ci⟩ := World.cells?_some ci
      have hx : ((List.range len).map g)[i] = g i := by simp
      rw [hx]
      have ea : ∀ j, ((⟨b, off, none⟩ : Addr).add (i * 5)).add j = ⟨b, off + i * 5 + j, none⟩ := by
        intro j
        unfold Addr.add
        split <;> split <;> simp_all <;> omega
      have q0 := ci 0 (by omega)
      have q1 := ci 1 (by omega)
      have q2 := ci 2 (by omega)
      have q3 := ci 3 (by omega)
      have q4 := ci 4 (by omega)
      rw [ea] at q0 q1 q2 q3 q4
      exact ⟨whole_cell hw q0, whole_cell hw q1, whole_cell hw q2, whole_cell hw q3, whole_cell hw q4⟩
end
end Go.Proofs.YtghpfepmkngfdaaDoor
