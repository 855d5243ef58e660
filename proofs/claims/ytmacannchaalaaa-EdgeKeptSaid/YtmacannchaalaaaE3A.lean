/-
  Rows of pairs: a row reads as its pairs; append of one pair, of a row of pairs. It proves no statement by itself.
-/
import Derived.Test.YtmacannchaalaaaE3D
import Derived.Test.YtmacannchaalaaaAp2
namespace Go.Proofs.Ytmacannchaalaaa
open Go.RowKit
set_option linter.unusedSimpArgs false
set_option linter.unusedVariables false

/-- A row of pairs that is owned. -/
abbrev RowP (v : Value) (l : List Pr) : Asn := Row 25 2 v l.length (pv l)

theorem readsP_row {F : Asn} {w : World} {v : Value} {l : List Pr} (H : Sat (RowP v l * F) w) (hl : l.length ≤ 1000000) : ReadsP (RowP v l * F) v l := by
  obtain ⟨hx, ⟨rfl, h0, _⟩ | ⟨g, cap, cur, rfl, h2, h3, h4, h5, _⟩⟩ := sat_row.1 H
  · have : l = [] := List.eq_nil_of_length_eq_zero h0
    subst this
    exact ⟨none, 0, rfl, by simp, .inl rfl⟩
  · refine ⟨some ⟨g, 0, none⟩, cap, rfl, by omega, .inr ⟨g, 0, rfl, fun w' hw' j u hu => ?_⟩⟩
    obtain ⟨_, ⟨h0, _⟩ | ⟨g', cap', cur', e1, e2, e3, e4, e5, h⟩⟩ := sat_row.1 hw'
    · cases h0
    · cases e1
      rw [Nat.zero_add, Sat.read h.left.at j]
      have hj : j < (pv l).length := (List.getElem?_eq_some_iff.1 hu).1
      rw [← e5, List.length_take] at hj
      rw [← e5, List.getElem?_take_of_lt (by omega), Array.getElem?_toList] at hu
      exact hu
theorem readsP_get {F : Asn} {a : Option Addr} {n c : Nat} {l : List Pr} (hl : ReadsP F (.slice a n c) l) (k : Nat) (hk : k < l.length) : ∃ b off x1 x2, a = some ⟨b, off, none⟩ ∧ l[k] = (x1, x2) ∧ ∀ w, Sat F w →
    w.cell? ⟨b, off + k * 2, none⟩ = some (.int .i64 x1) ∧ w.cell? ⟨b, off + k * 2 + 1, none⟩ = some (.int .i64 x2) := by
  obtain ⟨b, off, h1, h2⟩ := readsP_at hl k hk
  exact ⟨b, off, _, _, h1, rfl, h2⟩
theorem Sat.mid {A B C : Asn} {w : World} (h : Sat (A * (B * C)) w) : Sat (A * C) w := (h.of_eq (show A * (B * C) = B * (A * C) from by ac_rfl)).right
theorem box_cells {x y : Value} {t : TypeId} {b : Nat} {R : Asn} {w : World} (H : Sat (pts b (.cells #[x, y] t (0, 0)) * R) w) : w.cell? ⟨b, 0, none⟩ = some x ∧ w.cell? ⟨b, 1, none⟩ = some y := ⟨Sat.read H.left.at 0, Sat.read H.left.at 1⟩
theorem row_nilP {F : Asn} {w : World} (H : Sat F w) : Sat (RowP (.slice none 0 0) [] * F) w := row_nil _ _ _ _ H

section
variable {R : Asn} {w : World} {ops : Array Oper} {rest : List Oper} {o : Oper} {a : Act} {Q : Exit → Act → World → Prop}
/-- append of one pair that has just been laid in a block of its own. -/
theorem wpList_append_pair (hgd : o.guard = none) (s x : Operand) (ho : o.op = .call { callee := .builtin .append, args := #[s, x], argTypes := #[39, 39] })
    {v : Value} {l : List Pr} (hs : a.eval s = v) (H : Sat (RowP v l * R) w) (hl : l.length ≤ 1000000) {b c : Nat} {x1 x2 : Int} (hx : a.eval x = .slice (some ⟨b, 0, none⟩) 1 c) (hb : b = w.heap.size)
    (h : ∀ v' w', Sat (RowP v' (l ++ [(x1, x2)]) * R) w' → Io w w' → wpList Try.prog ops Q rest (a.put o.dst v') w') :
    wpList Try.prog ops Q (o :: rest) a (w.alloc (.cells #[.int .i64 x1, .int .i64 x2] 25)) := by
  obtain ⟨i0, hi, hz0, hz1, hz2⟩ := info_parts Try.info25
  refine wpList_append_new hgd s x 39 ho 25 Try.underlying39 hi hz0 hz1 hz2 rfl hs H 1 c [.int .i64 x1, .int .i64 x2] hx hb rfl rfl (by omega) (by omega) (by omega) ?_
  intro g c' w' H' I'
  refine h _ w' (H'.of_eq ?_) I'
  unfold RowP
  rw [show (l ++ [(x1, x2)]).length = l.length + 1 from by simp, pv_append]
  rfl
theorem step_append_pair {K : Act → World → Prop} {E : Prop} (hgd : o.guard = none) (s x : Operand) (ho : o.op = .call { callee := .builtin .append, args := #[s, x], argTypes := #[39, 39] })
    {v : Value} {l : List Pr} (hs : a.eval s = v) (H : Sat (RowP v l * R) w) (hl : l.length ≤ 1000000) {b c : Nat} {x1 x2 : Int} (hx : a.eval x = .slice (some ⟨b, 0, none⟩) 1 c) (hb : b = w.heap.size)
    (h : ∀ v' w', Sat (RowP v' (l ++ [(x1, x2)]) * R) w' → Io w w' → K (a.put o.dst v') w') :
    if Region.wanted o (yielded ops a.tmps) = true then Oper.wp Try.prog o a (w.alloc (.cells #[.int .i64 x1, .int .i64 x2] 25)) K Q else E := by
  obtain ⟨i0, hi, hz0, hz1, hz2⟩ := info_parts Try.info25
  refine step_append_new hgd s x 39 ho 25 Try.underlying39 hi hz0 hz1 hz2 rfl hs H 1 c [.int .i64 x1, .int .i64 x2] hx hb rfl rfl (by omega) (by omega) (by omega) ?_
  intro g c' w' H' I'
  refine h _ w' (H'.of_eq ?_) I'
  unfold RowP
  rw [show (l ++ [(x1, x2)]).length = l.length + 1 from by simp, pv_append]
  rfl
/-- append of pairs that are read. -/
theorem wpList_append_pairs (hgd : o.guard = none) (s x : Operand) (ho : o.op = .call { callee := .builtin .append, args := #[s, x], argTypes := #[39, 39] })
    {v u : Value} {l m : List Pr} (hs : a.eval s = v) (H : Sat (RowP v l * R) w) (hl : l.length ≤ 1000000) (hm : m.length ≤ 1000000) (hx : a.eval x = u) (hu : ReadsP R u m)
    (h : ∀ v' w', Sat (RowP v' (l ++ m) * R) w' → Io w w' → wpList Try.prog ops Q rest (a.put o.dst v') w') :
    wpList Try.prog ops Q (o :: rest) a w := by
  obtain ⟨i0, hi, hz0, hz1, hz2⟩ := info_parts Try.info25
  obtain ⟨ad, c, rfl, _, hr⟩ := hu
  rcases hr with rfl | ⟨b, off, rfl, hc⟩
  · refine wpList_plain hgd fun K hK => ?_
    have hru : (Builtin.append_ #[39, 39] o.type #[v, .slice ad 0 c]).run Try.prog w = .ok v w := by
      obtain ⟨_, ⟨rfl, h0, _⟩ | ⟨g, cap, cur, rfl, h2, h3, h4, h5, h6⟩⟩ := sat_row.1 H
      · cases ad <;> simp [Builtin.append_, run_underlying Try.underlying39, sizeOf, typeInfo, hi, Builtin.lenOf, Builtin.firstCells, loadCells, loadCellsFrom]
      · cases ad <;> simp [Builtin.append_, run_underlying Try.underlying39, sizeOf, typeInfo, hi, Builtin.lenOf, Builtin.firstCells, loadCells, loadCellsFrom, h2, storeCells]
    unfold Oper.wp execOp
    simp only [ho, resolve, invoke, builtin, Sem.run_bind, Sem.run_pure, Result.andThen_ok, List.map_toArray, List.map_cons, List.map_nil, hs, hx, List.length_nil, hru]
    exact hK _ _ (h v w (by simpa using H) (Io.refl w))
  · have had : ∀ j, (⟨b, off, none⟩ : Addr).add j = ⟨b, off + j, none⟩ := fun j => by unfold Addr.add; split <;> simp_all
    refine wpList_append_sl hgd s x 39 ho 25 Try.underlying39 hi hz0 hz1 hz2 rfl hs H ⟨b, off, none⟩ m.length c (pv m) hx (pv_length m) (fun j u hj => by rw [had]; exact hc w H.right j u hj) (pv_one m) (by unfold maxLen; omega) (by omega) ?_
    intro v' w' H' I'
    refine h v' w' (H'.of_eq ?_) I'
    unfold RowP
    rw [List.length_append, pv_append]
end
end Go.Proofs.Ytmacannchaalaaa
