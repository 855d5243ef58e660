/-
  Rows that are owned: a cell is stored, a row is cut, cleared behind its end, copied into, appended to in place, appended zeros. No program in sight. It proves no statement by itself.
-/
import Derived.Test.YthbbdicdcmjpiaaGreatDoorQ03
import Derived.Lib.AppendZerosOnto
import Derived.Lib.AppendZeros
namespace Go.Proofs.YthbbdicdcmjpiaaGreatDoor
open Go.RowKit
set_option linter.unusedSimpArgs false
set_option linter.unusedVariables false

section
variable {P : Program} {e : TypeId} {sz g n c : Nat} {xs : List Value} {F : Asn} {w : World}
theorem row_store (H : Sat (Row e sz (.slice (some ⟨g, 0, none⟩) n c) n xs * F) w) (j : Nat) (v : Value) : Sat (Row e sz (.slice (some ⟨g, 0, none⟩) n c) n (xs.set j v) * F) (w.setCell ⟨g, j, none⟩ v) := by
  obtain ⟨hl, ⟨h0, _⟩ | ⟨g', cap, cur, e1, e2, e3, e4, e5, h⟩⟩ := sat_row.1 H
  · cases h0
  · cases e1
    refine sat_row.2 ⟨by rw [List.length_set]; exact hl, .inr ⟨g, c, cur.setIfInBounds j v, rfl, e2, e3, by simpa using e4, ?_, h.cell j v⟩⟩
    rw [Array.toList_setIfInBounds, ← e5, List.take_set]
theorem row_free (H : Sat (Row e sz (.slice (some ⟨g, 0, none⟩) n c) n xs * F) w) (j : Nat) : w.frozen? ⟨g, j, none⟩ = false := by
  obtain ⟨hl, ⟨h0, _⟩ | ⟨g', cap, cur, e1, e2, e3, e4, e5, h⟩⟩ := sat_row.1 H
  · cases h0
  · cases e1
    exact Sat.free h.left.at j
theorem row_lt (H : Sat (Row e sz (.slice (some ⟨g, 0, none⟩) n c) n xs * F) w) : g < w.heap.size := by
  obtain ⟨hl, ⟨h0, _⟩ | ⟨g', cap, cur, e1, e2, e3, e4, e5, h⟩⟩ := sat_row.1 H
  · cases h0
  · cases e1
    exact h.left.lt
theorem row_cap (H : Sat (Row e sz (.slice (some ⟨g, 0, none⟩) n c) n xs * F) w) : n ≤ c ∧ c ≤ maxLen := by
  obtain ⟨hl, ⟨h0, _⟩ | ⟨g', cap, cur, e1, e2, e3, e4, e5, h⟩⟩ := sat_row.1 H
  · cases h0
  · cases e1
    exact ⟨e2, e3⟩
theorem row_read (H : Sat (Row e sz (.slice (some ⟨g, 0, none⟩) n c) n xs * F) w) (j : Nat) (u : Value) (hu : xs[j]? = some u) : w.cell? ⟨g, j, none⟩ = some u := by
  obtain ⟨hl, ⟨h0, _⟩ | ⟨g', cap, cur, e1, e2, e3, e4, e5, h⟩⟩ := sat_row.1 H
  · cases h0
  · cases e1
    rw [Sat.read h.left.at j]
    have hj : j < xs.length := (List.getElem?_eq_some_iff.1 hu).1
    rw [← e5, List.length_take] at hj
    rw [← e5, List.getElem?_take_of_lt (by omega), Array.getElem?_toList] at hu
    exact hu
theorem row_shrink (H : Sat (Row e sz (.slice (some ⟨g, 0, none⟩) n c) n xs * F) w) {k : Nat} (hk : k ≤ n) : Sat (Row e sz (.slice (some ⟨g, 0, none⟩) k c) k (xs.take (k * sz)) * F) w := by
  obtain ⟨hl, ⟨h0, _⟩ | ⟨g', cap, cur, e1, e2, e3, e4, e5, h⟩⟩ := sat_row.1 H
  · cases h0
  · cases e1
    have := Nat.mul_le_mul_right sz hk
    refine sat_row.2 ⟨by rw [List.length_take]; omega, .inr ⟨g, c, cur, rfl, by omega, e3, e4, ?_, h⟩⟩
    rw [← e5, List.take_take, Nat.min_eq_left this]
/-- The whole block: from a row to one that is longer (what stands behind is whatever it is). -/
theorem row_stretch (H : Sat (Row e sz (.slice (some ⟨g, 0, none⟩) n c) n xs * F) w) {k : Nat} (hk : k ≤ c) (hn : n ≤ k) : ∃ ys, Sat (Row e sz (.slice (some ⟨g, 0, none⟩) k c) k ys * F) w ∧ ys.take (n * sz) = xs := by
  obtain ⟨hl, ⟨h0, _⟩ | ⟨g', cap, cur, e1, e2, e3, e4, e5, h⟩⟩ := sat_row.1 H
  · cases h0
  · cases e1
    have h1 := Nat.mul_le_mul_right sz hk
    have h2 := Nat.mul_le_mul_right sz hn
    refine ⟨cur.toList.take (k * sz), sat_row.2 ⟨by rw [List.length_take, Array.length_toList]; omega, .inr ⟨g, c, cur, rfl, hk, e3, e4, rfl, h⟩⟩, ?_⟩
    rw [List.take_take, Nat.min_eq_left h2, e5]
/-- Cells laid over a row's block. -/
theorem row_over (H : Sat (Row e sz (.slice (some ⟨g, 0, none⟩) n c) n xs * F) w) (o : Nat) (vs : List Value) (ho : o + vs.length ≤ c * sz) (h1 : ∀ v ∈ vs, v.oneCell' = true) :
    ∃ w', (storeCells ⟨g, o, none⟩ vs 0).run P w = .ok () w' ∧ Io w w' ∧ (o + vs.length ≤ n * sz → Sat (Row e sz (.slice (some ⟨g, 0, none⟩) n c) n (splice xs o vs) * F) w') ∧ (n * sz ≤ o → Sat (Row e sz (.slice (some ⟨g, 0, none⟩) n c) n xs * F) w') := by
  obtain ⟨hl, ⟨h0, _⟩ | ⟨g', cap, cur, e1, e2, e3, e4, e5, h⟩⟩ := sat_row.1 H
  · cases h0
  · cases e1
    have hg := h.left.at
    have hst := run_storeCells_at P g o e vs 0 cur w hg (by omega) h1
    simp only [Nat.add_zero] at hst
    have hmul := Nat.mul_le_mul_right sz e2
    refine ⟨_, hst, ⟨rfl, rfl, rfl, by simp [World.setRow]⟩, fun hn => ?_, fun hn => ?_⟩
    · refine sat_row.2 ⟨by rw [length_splice _ _ _ (by omega)]; exact hl, .inr ⟨g, c, _, rfl, e2, e3, ?_, ?_, h.set (setRow_heap w g cur _ e _ hg) fun k _ hk => setRow_other w g k _ hk⟩⟩
      · simp only [List.size_toArray, List.length_append, List.length_take, List.length_drop, Array.length_toList]
        omega
      · show (cur.toList.take o ++ vs ++ cur.toList.drop (o + vs.length)).take (n * sz) = splice xs o vs
        unfold splice
        rw [← e5, List.append_assoc, List.take_append, List.take_append, List.length_take, Array.length_toList, List.take_take, List.take_take, List.drop_take]
        congr 1
        · congr 1
          omega
        · congr 1
          · exact List.take_of_length_le (by omega)
          · congr 1
            omega
    · refine sat_row.2 ⟨hl, .inr ⟨g, c, _, rfl, e2, e3, ?_, ?_, h.set (setRow_heap w g cur _ e _ hg) fun k _ hk => setRow_other w g k _ hk⟩⟩
      · simp only [List.size_toArray, List.length_append, List.length_take, List.length_drop, Array.length_toList]
        omega
      · show (cur.toList.take o ++ vs ++ cur.toList.drop (o + vs.length)).take (n * sz) = xs
        rw [List.append_assoc, List.take_append_of_le_length (by rw [List.length_take, Array.length_toList]; omega), List.take_take, Nat.min_eq_left hn, e5]
theorem zeroCells_list (z : Array Value) (m : Nat) (h1 : ∀ u ∈ z.toList, u.oneCell' = true) : ∀ u ∈ (Builtin.zeroCells z m).toList, u.oneCell' = true := by
  intro u hu
  simp only [Builtin.zeroCells, Array.toList_map, List.mem_map] at hu
  obtain ⟨i, hi, rfl⟩ := hu
  by_cases h0 : z.size = 0
  · simp [h0] at hi
  · have : i % z.size < z.size := Nat.mod_lt _ (by omega)
    rw [getElem!_pos z _ this]
    exact h1 _ (by simp)
/-- 'clear(s[k:k+m])' behind the row's end. -/
theorem run_clear_beyond {t ty : TypeId} {z : Value} (ht : P.underlying t = some (.slice e)) (hv : ∀ w, (zeroValue e).run P w = .ok z w) (hz : z.cells.size = sz) (h1 : ∀ u ∈ z.cells.toList, u.oneCell' = true)
    (H : Sat (Row e sz (.slice (some ⟨g, 0, none⟩) n c) n xs * F) w) (k m : Nat) (hk : n ≤ k) (hm : k + m ≤ c) (a : Option Addr) (ha : 0 < m → a = some ⟨g, k * sz, none⟩) (c' : Nat) :
    ∃ w', (Builtin.clear_ #[t] ty #[.slice a m c']).run P w = .ok (.tuple #[]) w' ∧ Sat (Row e sz (.slice (some ⟨g, 0, none⟩) n c) n xs * F) w' ∧ Io w w' := by
  cases m with
  | zero => cases a <;> exact ⟨w, by simp [Builtin.clear_, run_underlying ht], H, Io.refl w⟩
  | succ m =>
    obtain rfl := ha (by omega)
    have hl : (Builtin.zeroCells z.cells (m + 1)).toList.length = (m + 1) * sz := by rw [Array.length_toList, size_zeroCells, hz]
    have hmul := Nat.mul_le_mul_right sz hm
    rw [Nat.add_mul] at hmul
    obtain ⟨w', hr, hI, _, hS⟩ := row_over (P := P) H (k * sz) (Builtin.zeroCells z.cells (m + 1)).toList (by rw [hl]; exact hmul) (zeroCells_list _ _ h1)
    exact ⟨w', by simp [Builtin.clear_, run_underlying ht, hv, hr], hS (Nat.mul_le_mul_right sz hk), hI⟩
/-- 'copy(s[o:..], src)' into the row. -/
theorem run_copy_into {dT sT ty : TypeId} {i : TypeInfo} (hu : P.underlying dT = some (.slice e)) (hi : P.info? e = some i) (hs : i.size = sz)
    (H : Sat (Row e sz (.slice (some ⟨g, 0, none⟩) n c) n xs * F) w) (o dLen dCap : Nat) (ad : Addr) (sLen sCap : Nat) (cs : List Value) (hn : cs.length = Nat.min sLen dLen * sz) (ho : o * sz + cs.length ≤ n * sz)
    (hsrc : ∀ j v, cs[j]? = some v → w.cell? (ad.add j) = some v) (h1 : ∀ v ∈ cs, v.oneCell' = true) :
    ∃ w', (Builtin.copy_ #[dT, sT] ty #[.slice (some ⟨g, o * sz, none⟩) dLen dCap, .slice (some ad) sLen sCap]).run P w = .ok (goInt (Nat.min sLen dLen)) w' ∧ Sat (Row e sz (.slice (some ⟨g, 0, none⟩) n c) n (splice xs (o * sz) cs) * F) w' ∧ Io w w' := by
  have hmul := Nat.mul_le_mul_right sz (row_cap H).1
  obtain ⟨w', hr, hI, hS, _⟩ := row_over (P := P) H (o * sz) cs (by omega) h1
  have hl := run_loadCells_list (P := P) w ad cs hsrc
  rw [hn] at hl
  refine ⟨w', ?_, hS ho, hI⟩
  simp [Builtin.copy_, run_underlying hu, Builtin.lenOf, Builtin.firstCells, sizeOf, typeInfo, hi, hs, hl, hr]
/-- 'append(s[:k], src...)' where there is room. -/
theorem run_append_room_sl {t ty : TypeId} {i : TypeInfo} (ht : P.underlying t = some (.slice e)) (hi : P.info? e = some i) (hs : i.size = sz)
    (H : Sat (Row e sz (.slice (some ⟨g, 0, none⟩) n c) n xs * F) w) (ad : Addr) (m c' : Nat) (news : List Value) (hl : news.length = m * sz) (hnews : ∀ j u, news[j]? = some u → w.cell? (ad.add j) = some u) (h1 : ∀ u ∈ news, u.oneCell' = true) (hroom : n + m ≤ c) :
    ∃ w', (Builtin.append_ #[t, t] ty #[.slice (some ⟨g, 0, none⟩) n c, .slice (some ad) m c']).run P w = .ok (.slice (some ⟨g, 0, none⟩) (n + m) c) w' ∧ Sat (Row e sz (.slice (some ⟨g, 0, none⟩) (n + m) c) (n + m) (xs ++ news) * F) w' ∧ Io w w' := by
  subst hs
  obtain ⟨hx, ⟨h0, _⟩ | ⟨g', cap, cur, e1, hnc, hcm, hcs, htake, hR⟩⟩ := sat_row.1 H
  · cases h0
  · cases e1
    have hg := hR.left.at
    have hmul := Nat.mul_le_mul_right i.size hroom
    rw [Nat.add_mul] at hmul
    have hr := run_append_room (P := P) w t ty e i ht hi g n c cur hg ad m c' news hl hnews h1 hroom (by rw [hl, hcs]; exact hmul)
    have hlen : (xs ++ news).length = (n + m) * i.size := by rw [List.length_append, hx, hl, Nat.add_mul]
    refine ⟨_, hr, sat_row.2 ⟨hlen, .inr ⟨g, c, _, rfl, hroom, hcm, ?_, ?_, hR.set (setRow_heap w g cur _ e _ hg) fun k _ hk => setRow_other w g k _ hk⟩⟩, ⟨rfl, rfl, rfl, by simp⟩⟩
    · simp only [List.size_toArray, List.length_append, List.length_take, List.length_drop, Array.length_toList]
      omega
    · rw [htake, ← hlen]
      exact List.take_left
/-- 'append(s[:k], make(S, m)...)' where there is no room: a new row. -/
theorem run_append_zeros_sl {t tn ty : TypeId} {i : TypeInfo} {z : Value} {kn : IntKind} {bytes : Nat} (ht : P.underlying t = some (.slice e)) (htn : P.underlying tn = some (.int kn)) (hi : P.info? e = some i) (hz : i.zero = some z) (hs : i.size = sz) (hb : i.bytes = bytes) (hzs : z.cells.size = sz) (h0 : 0 < sz)
    {G : Asn} (HG : Sat G w) (ad : Addr) (olds : List Value) (hol : olds.length = n * sz) (holds : ∀ j u, olds[j]? = some u → w.cell? (ad.add j) = some u) (m : Nat) (hm : 0 < m) (hroom : c < n + m) (h63 : n + m ≤ maxLen) (hbytes : (n + m) * bytes ≤ 140737488355328) (kq : IntKind) :
    ∃ g' c' w', (Builtin.append_ #[t, tn] ty #[.slice (some ad) n c, .int kq (m : Int)]).run P w = .ok (.slice (some ⟨g', 0, none⟩) (n + m) c') w' ∧ Sat (Row e sz (.slice (some ⟨g', 0, none⟩) (n + m) c') (n + m) (olds ++ (Builtin.zeroCells z.cells m).toList) * G) w' ∧ Io w w' := by
  subst hs
  subst hb
  have hsmall : n + m ≤ 9223372036854775807 := by simp only [maxLen] at h63; omega
  have hold := run_firstCells_some (P := P) w.drew i.size n ad n c olds hol holds
  have hk : m * i.bytes ≤ 140737488355328 := Nat.le_trans (Nat.mul_le_mul_right _ (by omega)) hbytes
  have hr := Lib.run_append_grow_zeros (P := P) w t tn ty e i z kq kn ht htn hi hz (some ad) n c olds hold m hm h0 hroom (by omega) (by omega) (growslice_fits hroom hbytes)
  have hge := grownCap_ge w (n + m) c e
  refine ⟨_, _, _, hr, sat_row.2 ⟨?_, .inr ⟨w.heap.size, _, _, rfl, hge, grownCap_le_maxLen w (n + m) c e h63, ?_, ?_, (Sat.drew HG).new _⟩⟩, ((Io.refl w).drew).alloc _⟩
  · rw [List.length_append, hol, Array.length_toList, size_zeroCells, hzs, Nat.add_mul]
  · simp only [Array.size_append, List.size_toArray, size_zeroCells, hzs, hol, ← Nat.add_mul]
    congr 1
    omega
  · simp only [Array.toList_append, List.append_assoc]
    rw [← List.append_assoc]
    refine List.take_left' ?_
    rw [List.length_append, hol, Array.length_toList, size_zeroCells, hzs, Nat.add_mul]
/-- clear, whose run is known. -/
theorem wpList_clear_run {w w' : World} {ops : Array Oper} {rest : List Oper} {o : Oper} {a : Act} {Q : Exit → Act → World → Prop} (hgd : o.guard = none) (s : Operand) (t : TypeId)
    (ho : o.op = .call { callee := .builtin .clear, args := #[s], argTypes := #[t] }) {vs : Value} (hs : a.eval s = vs) {v : Value}
    (hr : (Builtin.clear_ #[t] o.type #[vs]).run P w = .ok v w')
    (h : wpList P ops Q rest (a.put o.dst v) w') : wpList P ops Q (o :: rest) a w :=
  wpList_plain hgd fun K hK => by
    unfold Oper.wp execOp
    simp only [ho, resolve, invoke, builtin, List.map_toArray, List.map_cons, List.map_nil, hs, hr, Sem.run_bind, Sem.run_pure, Result.andThen_ok]
    exact hK _ _ h
/-- append, whose run is known. -/
theorem wpList_append_run2 {w w' : World} {ops : Array Oper} {rest : List Oper} {o : Oper} {a : Act} {Q : Exit → Act → World → Prop} (hgd : o.guard = none) (s x : Operand) (t t2 : TypeId)
    (ho : o.op = .call { callee := .builtin .append, args := #[s, x], argTypes := #[t, t2] }) {vs vx : Value} (hs : a.eval s = vs) (hx : a.eval x = vx) {v : Value}
    (hr : (Builtin.append_ #[t, t2] o.type #[vs, vx]).run P w = .ok v w')
    (h : wpList P ops Q rest (a.put o.dst v) w') : wpList P ops Q (o :: rest) a w :=
  wpList_plain hgd fun K hK => by
    unfold Oper.wp execOp
    simp only [ho, resolve, invoke, builtin, List.map_toArray, List.map_cons, List.map_nil, hs, hx, hr, Sem.run_bind, Sem.run_pure, Result.andThen_ok]
    exact hK _ _ h
theorem step_append_run2 {w w' : World} {ops : Array Oper} {o : Oper} {a : Act} {K : Act → World → Prop} {Q : Exit → Act → World → Prop} {E : Prop} (hgd : o.guard = none) (s x : Operand) (t t2 : TypeId)
    (ho : o.op = .call { callee := .builtin .append, args := #[s, x], argTypes := #[t, t2] }) {vs vx : Value} (hs : a.eval s = vs) (hx : a.eval x = vx) {v : Value}
    (hr : (Builtin.append_ #[t, t2] o.type #[vs, vx]).run P w = .ok v w') (hK : K (a.put o.dst v) w') :
    if Region.wanted o (yielded ops a.tmps) = true then Oper.wp P o a w K Q else E := by
  have hw : Region.wanted o (yielded ops a.tmps) = true := by simp [Region.wanted, hgd]
  rw [if_pos hw]
  unfold Oper.wp execOp
  simp only [ho, resolve, invoke, builtin, List.map_toArray, List.map_cons, List.map_nil, hs, hx, hr, Sem.run_bind, Sem.run_pure, Result.andThen_ok]
  exact hK
end
end Go.Proofs.YthbbdicdcmjpiaaGreatDoor
