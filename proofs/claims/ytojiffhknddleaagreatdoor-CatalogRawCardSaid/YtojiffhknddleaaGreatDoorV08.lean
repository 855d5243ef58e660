/-
  append as one step of a region that draws its order. It proves no statement by itself.
-/
import Derived.Test.YtojiffhknddleaaGreatDoorV02
import Derived.Deep.RegionHeld3
namespace Go.Proofs.YtojiffhknddleaaGreatDoor
open Go.RowKit
set_option linter.unusedSimpArgs false
set_option linter.unusedVariables false

section
variable {P : Program}
/-- append of what has just been laid in a block of its own, as one step of a region that draws its order. -/
theorem step_append_new {R : Asn} {w : World} {ops : Array Oper} {o : Oper} {a : Act} {K : Act → World → Prop} {Q : Exit → Act → World → Prop} {E : Prop} (hgd : o.guard = none) (s x : Operand) (t : TypeId)
    (ho : o.op = .call { callee := .builtin .append, args := #[s, x], argTypes := #[t, t] })
    (e : TypeId) {i : TypeInfo} {z : Value} {size bytes : Nat} (ht : P.underlying t = some (.slice e)) (hi : P.info? e = some i) (hz : i.zero = some z)
    (hsize : i.size = size) (hby : i.bytes = bytes) (hzs : z.cells.size = size)
    {v : Value} {n : Nat} {xs : List Value} (hs : a.eval s = v) (H : Sat (Row e size v n xs * R) w)
    {b : Nat} (m c : Nat) (cs : List Value) (hx : a.eval x = .slice (some ⟨b, 0, none⟩) m c) (hb : b = w.heap.size) (hl : cs.length = m * size) (h1 : cs.all (·.oneCell') = true)
    (hbytes : n + m ≤ 1000000000) (hby2 : bytes ≤ 100000)
    (hm : 0 < m) (h : ∀ g c' w', Sat (Row e size (.slice (some ⟨g, 0, none⟩) (n + m) c') (n + m) (xs ++ cs) * R) w' → Io w w' → K (a.put o.dst (.slice (some ⟨g, 0, none⟩) (n + m) c')) w') :
    if Region.wanted o (yielded ops a.tmps) = true then Oper.wp P o a (w.alloc (.cells cs.toArray e)) K Q else E := by
  have hk : (n + m) * bytes ≤ 1000000000 * 100000 := Nat.mul_le_mul hbytes hby2
  have hw : Region.wanted o (yielded ops a.tmps) = true := by simp [Region.wanted, hgd]
  rw [if_pos hw]
  obtain ⟨v', w', hr, h2, h3⟩ := run_append_sl (P := P) (w.alloc (.cells cs.toArray e)) t o.type e ht hi hz hsize hby hzs (H.alloc _) ⟨b, 0, none⟩ m c cs hl (news_at w b hb cs e) (fun u hu => List.all_eq_true.1 h1 u hu) (by unfold maxLen; omega) (by omega)
  obtain ⟨g, c', rfl⟩ := row_shape h2 (by omega)
  unfold Oper.wp execOp
  simp only [ho, resolve, invoke, builtin, Sem.run_bind, Sem.run_pure, Result.andThen_ok, List.map_toArray, List.map_cons, List.map_nil, hs, hx, hr]
  exact h g c' w' h2 (((Io.refl w).alloc _).trans h3)
end
end Go.Proofs.YtojiffhknddleaaGreatDoor

/-
  Rows of records: cells of a list of records, slice values that read as a list, rows that are owned, append. No program in sight. It proves no statement by itself.
-/
namespace Go.Proofs.YtojiffhknddleaaGreatDoor
open Go.RowKit
set_option linter.unusedSimpArgs false
set_option linter.unusedVariables false

section
variable {α : Type} {enc : α → List Value} {sz : Nat}
/-- The cells of records. -/
def cellsOf (enc : α → List Value) (l : List α) : List Value := l.flatMap enc
/-- Each record has sz cells, each a plain one. -/
structure Enc (enc : α → List Value) (sz : Nat) : Prop where
  len : ∀ x, (enc x).length = sz
  one : ∀ x, ∀ u ∈ enc x, u.oneCell' = true
theorem cellsOf_append (l m : List α) : cellsOf enc (l ++ m) = cellsOf enc l ++ cellsOf enc m := by simp [cellsOf]
theorem cellsOf_length (h : Enc enc sz) : ∀ l : List α, (cellsOf enc l).length = l.length * sz
  | [] => by simp [cellsOf]
  | x :: l => by
    have := cellsOf_length h l
    unfold cellsOf at this ⊢
    rw [List.flatMap_cons, List.length_append, this, h.len, List.length_cons, Nat.succ_mul]
    omega
theorem cellsOf_get (h : Enc enc sz) : ∀ (l : List α) (k : Nat) (hk : k < l.length) (i : Nat) (hi : i < sz), (cellsOf enc l)[k * sz + i]? = (enc l[k])[i]?
  | x :: l, 0, hk, i, hi => by
    unfold cellsOf
    rw [List.flatMap_cons, Nat.zero_mul, Nat.zero_add, List.getElem?_append_left (by rw [h.len]; exact hi)]
    rfl
  | x :: l, k + 1, hk, i, hi => by
    have := cellsOf_get h l k (by simpa using hk) i hi
    unfold cellsOf at this ⊢
    have e : (k + 1) * sz = k * sz + sz := Nat.succ_mul k sz
    rw [List.flatMap_cons, List.getElem?_append_right (by rw [h.len]; omega), h.len, show (k + 1) * sz + i - sz = k * sz + i from by omega, this]
    rfl
theorem cellsOf_one (h : Enc enc sz) (l : List α) : ∀ u ∈ cellsOf enc l, u.oneCell' = true := by
  intro u hu
  obtain ⟨x, _, hx⟩ := List.mem_flatMap.1 hu
  exact h.one x u hx
/-- A slice value that reads as these records, wherever F holds. -/
def Reads (enc : α → List Value) (F : Asn) (v : Value) (l : List α) : Prop :=
  ∃ a c, v = .slice a l.length c ∧ l.length ≤ 9223372036854775807 ∧ (l = [] ∨ ∃ b off, a = some ⟨b, off, none⟩ ∧ ∀ w, Sat F w → ∀ j u, (cellsOf enc l)[j]? = some u → w.cell? ⟨b, off + j, none⟩ = some u)
theorem Reads.imp {F G : Asn} {v : Value} {l : List α} (h : Reads enc F v l) (k : ∀ w, Sat G w → Sat F w) : Reads enc G v l := by
  obtain ⟨a, c, h1, h2, h3⟩ := h
  refine ⟨a, c, h1, h2, ?_⟩
  rcases h3 with h3 | ⟨b, off, e, h3⟩
  · exact .inl h3
  · exact .inr ⟨b, off, e, fun w hw => h3 w (k w hw)⟩
theorem Reads.with {F G : Asn} {v : Value} {l : List α} (h : Reads enc F v l) : Reads enc (G * F) v l := h.imp fun _ hw => hw.right
theorem Reads.get (he : Enc enc sz) {F : Asn} {a : Option Addr} {n c : Nat} {l : List α} (hl : Reads enc F (.slice a n c) l) (k : Nat) (hk : k < l.length) : ∃ b off, a = some ⟨b, off, none⟩ ∧ ∀ w, Sat F w →
    ∀ i u, i < sz → (enc l[k])[i]? = some u → w.cell? ⟨b, off + k * sz + i, none⟩ = some u := by
  obtain ⟨a', c', h1, _, h3⟩ := hl
  cases h1
  rcases h3 with rfl | ⟨b, off, e, h3⟩
  · simp at hk
  · refine ⟨b, off, e, fun w hw i u hi hu => ?_⟩
    rw [Nat.add_assoc]
    exact h3 w hw (k * sz + i) u (by rw [cellsOf_get he l k hk i hi]; exact hu)
/-- A row of records that is owned. -/
abbrev RowOf (e : TypeId) (sz : Nat) (enc : α → List Value) (v : Value) (l : List α) : Asn := Row e sz v l.length (cellsOf enc l)
theorem Reads.of_row {e : TypeId} {F : Asn} {w : World} {v : Value} {l : List α} (H : Sat (RowOf e sz enc v l * F) w) (hl : l.length ≤ 1000000) : Reads enc (RowOf e sz enc v l * F) v l := by
  obtain ⟨hx, ⟨rfl, h0, _⟩ | ⟨g, cap, cur, rfl, h2, h3, h4, h5, _⟩⟩ := sat_row.1 H
  · have : l = [] := List.eq_nil_of_length_eq_zero h0
    subst this
    exact ⟨none, 0, rfl, by simp, .inl rfl⟩
  · refine ⟨some ⟨g, 0, none⟩, cap, rfl, by omega, .inr ⟨g, 0, rfl, fun w' hw' j u hu => ?_⟩⟩
    obtain ⟨_, ⟨h0, _⟩ | ⟨g', cap', cur', e1, e2, e3, e4, e5, h⟩⟩ := sat_row.1 hw'
    · cases h0
    · cases e1
      rw [Nat.zero_add, Sat.read h.left.at j]
      have hj : j < (cellsOf enc l).length := (List.getElem?_eq_some_iff.1 hu).1
      rw [← e5, List.length_take] at hj
      rw [← e5, List.getElem?_take_of_lt (by omega), Array.getElem?_toList] at hu
      exact hu
theorem rowOf_nil {e : TypeId} {F : Asn} {w : World} (H : Sat F w) : Sat (RowOf e sz enc (.slice none 0 0) [] * F) w := row_nil _ _ _ _ H
/-- What the program's tables say of a slice type and its elements. -/
structure RowTy (P : Program) (t e : TypeId) (sz bytes : Nat) : Prop where
  und : P.underlying t = some (.slice e)
  info : ∃ z : Value, z.cells.size = sz ∧ (P.info? e).map (fun i => (i.zero, i.size, i.bytes)) = some (some z, sz, bytes)
  small : bytes ≤ 100000
theorem RowTy.parts {P : Program} {t e : TypeId} {sz bytes : Nat} (h : RowTy P t e sz bytes) : ∃ (i : TypeInfo) (z : Value), P.info? e = some i ∧ i.zero = some z ∧ i.size = sz ∧ i.bytes = bytes ∧ z.cells.size = sz := by
  obtain ⟨z, hz, h2⟩ := h.info
  obtain ⟨i, h3, h4, h5, h6⟩ := info_parts h2
  exact ⟨i, z, h3, h4, h5, h6, hz⟩
section
variable {P : Program} {t e : TypeId} {bytes : Nat} {R : Asn} {w : World} {ops : Array Oper} {rest : List Oper} {o : Oper} {a : Act} {Q : Exit → Act → World → Prop}
/-- append of one record that has just been laid in a block of its own. -/
theorem wpList_append_rec (T : RowTy P t e sz bytes) (he : Enc enc sz) (hgd : o.guard = none) (s x : Operand) (ho : o.op = .call { callee := .builtin .append, args := #[s, x], argTypes := #[t, t] })
    {v : Value} {l : List α} (hs : a.eval s = v) (H : Sat (RowOf e sz enc v l * R) w) (hl : l.length ≤ 1000000) {b c : Nat} (y : α) (hx : a.eval x = .slice (some ⟨b, 0, none⟩) 1 c) (hb : b = w.heap.size)
    (h : ∀ v' w', Sat (RowOf e sz enc v' (l ++ [y]) * R) w' → Io w w' → wpList P ops Q rest (a.put o.dst v') w') :
    wpList P ops Q (o :: rest) a (w.alloc (.cells (enc y).toArray e)) := by
  obtain ⟨i0, z, hi, hz0, hz1, hz2, hz3⟩ := T.parts
  refine wpList_append_new hgd s x t ho e T.und hi hz0 hz1 hz2 hz3 hs H 1 c (enc y) hx hb (by rw [he.len, Nat.one_mul]) (List.all_eq_true.2 (he.one y)) (by omega) T.small (by omega) ?_
  intro g c' w' H' I'
  refine h _ w' (H'.of_eq ?_) I'
  unfold RowOf
  rw [show (l ++ [y]).length = l.length + 1 from by simp, cellsOf_append]
  simp [cellsOf]
theorem step_append_rec (T : RowTy P t e sz bytes) (he : Enc enc sz) {K : Act → World → Prop} {E : Prop} (hgd : o.guard = none) (s x : Operand) (ho : o.op = .call { callee := .builtin .append, args := #[s, x], argTypes := #[t, t] })
    {v : Value} {l : List α} (hs : a.eval s = v) (H : Sat (RowOf e sz enc v l * R) w) (hl : l.length ≤ 1000000) {b c : Nat} (y : α) (hx : a.eval x = .slice (some ⟨b, 0, none⟩) 1 c) (hb : b = w.heap.size)
    (h : ∀ v' w', Sat (RowOf e sz enc v' (l ++ [y]) * R) w' → Io w w' → K (a.put o.dst v') w') :
    if Region.wanted o (yielded ops a.tmps) = true then Oper.wp P o a (w.alloc (.cells (enc y).toArray e)) K Q else E := by
  obtain ⟨i0, z, hi, hz0, hz1, hz2, hz3⟩ := T.parts
  refine step_append_new hgd s x t ho e T.und hi hz0 hz1 hz2 hz3 hs H 1 c (enc y) hx hb (by rw [he.len, Nat.one_mul]) (List.all_eq_true.2 (he.one y)) (by omega) T.small (by omega) ?_
  intro g c' w' H' I'
  refine h _ w' (H'.of_eq ?_) I'
  unfold RowOf
  rw [show (l ++ [y]).length = l.length + 1 from by simp, cellsOf_append]
  simp [cellsOf]
/-- append of records that are read. -/
theorem run_append_recs (T : RowTy P t e sz bytes) (he : Enc enc sz) {v u : Value} {l m : List α} (H : Sat (RowOf e sz enc v l * R) w) (hl : l.length ≤ 1000000) (hm : m.length ≤ 1000000) (hu : Reads enc R u m) (ty : TypeId) :
    ∃ v' w', (Builtin.append_ #[t, t] ty #[v, u]).run P w = .ok v' w' ∧ Sat (RowOf e sz enc v' (l ++ m) * R) w' ∧ Io w w' := by
  obtain ⟨i0, z, hi, hz0, hz1, hz2, hz3⟩ := T.parts
  obtain ⟨ad, c, rfl, _, hr⟩ := hu
  have hb : (l.length + m.length) * bytes ≤ 140737488355328 := by
    have := Nat.mul_le_mul (show l.length + m.length ≤ 2000000 by omega) T.small
    omega
  rcases hr with rfl | ⟨b, off, rfl, hc⟩
  · refine ⟨v, w, ?_, by simpa using H, Io.refl w⟩
    obtain ⟨_, ⟨rfl, h0, _⟩ | ⟨g, cap, cur, rfl, h2, h3, h4, h5, h6⟩⟩ := sat_row.1 H
    · cases ad <;> simp [Builtin.append_, run_underlying T.und, sizeOf, typeInfo, hi, Builtin.lenOf, Builtin.firstCells, loadCells, loadCellsFrom]
    · cases ad <;> simp [Builtin.append_, run_underlying T.und, sizeOf, typeInfo, hi, Builtin.lenOf, Builtin.firstCells, loadCells, loadCellsFrom, h2, storeCells]
  · have had : ∀ j, (⟨b, off, none⟩ : Addr).add j = ⟨b, off + j, none⟩ := fun j => by unfold Addr.add; split <;> simp_all
    obtain ⟨v', w', h1, h2, h3⟩ := run_append_sl (P := P) w t ty e T.und hi hz0 hz1 hz2 hz3 H ⟨b, off, none⟩ m.length c (cellsOf enc m) (cellsOf_length he m) (fun j u hj => by rw [had]; exact hc w H.right j u hj) (cellsOf_one he m) (by unfold maxLen; omega) hb
    refine ⟨v', w', h1, h2.of_eq ?_, h3⟩
    unfold RowOf
    rw [List.length_append, cellsOf_append]
theorem wpList_append_recs (T : RowTy P t e sz bytes) (he : Enc enc sz) (hgd : o.guard = none) (s x : Operand) (ho : o.op = .call { callee := .builtin .append, args := #[s, x], argTypes := #[t, t] })
    {v u : Value} {l m : List α} (hs : a.eval s = v) (H : Sat (RowOf e sz enc v l * R) w) (hl : l.length ≤ 1000000) (hm : m.length ≤ 1000000) (hx : a.eval x = u) (hu : Reads enc R u m)
    (h : ∀ v' w', Sat (RowOf e sz enc v' (l ++ m) * R) w' → Io w w' → wpList P ops Q rest (a.put o.dst v') w') :
    wpList P ops Q (o :: rest) a w :=
  wpList_plain hgd fun K hK => by
    obtain ⟨v', w', h1, h2, h3⟩ := run_append_recs T he H hl hm hu o.type
    unfold Oper.wp execOp
    simp only [ho, resolve, invoke, builtin, Sem.run_bind, Sem.run_pure, Result.andThen_ok, List.map_toArray, List.map_cons, List.map_nil, hs, hx, h1]
    exact hK _ _ (h v' w' h2 h3)
end
end
end Go.Proofs.YtojiffhknddleaaGreatDoor
