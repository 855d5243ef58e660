/-
  Maps in the small separation logic: the laws at the operations of a walk, and ranging over a map. No program in sight. It proves no statement by itself.
-/
import Derived.Test.YtabpgejjnphfcaaGreatQ01
import Derived.OwnWalk
namespace Go.Proofs.YtabpgejjnphfcaaGreat
open Go.RowKit Go.MapKept
open Go.ChangeMaps (setBlock)
set_option linter.unusedSimpArgs false
set_option linter.unusedVariables false
set_option linter.unusedSectionVars false

section
variable {κ ν : Type} [DecidableEq κ] {d : TypeDesc} {ek : κ → Value} {ev : ν → Value} {P : Program} {b : Nat} {l : List (κ × ν)} {F : Asn} {w : World} {T kt et : TypeId}
  {ops : Array Oper} {rest : List Oper} {o : Oper} {a : Act} {Q : Exit → Act → World → Prop}
theorem wpList_update_sl (K : KeyEnc d ek) (hT : P.underlying T = some (.map kt et)) (hk : P.underlying kt = some d) (hgd : o.guard = none) (m x v : Operand) (ho : o.op = .mapUpdate T m x v)
    (hm : a.eval m = .map (some b)) (k : κ) (hx : a.eval x = ek k) (u : ν) (hv : a.eval v = ev u) (H : Sat (MapAt ek ev b l * F) w)
    (h : ∀ w', Sat (MapAt ek ev b (aput l k u) * F) w' → Io w w' → wpList P ops Q rest (a.put o.dst undef) w') : wpList P ops Q (o :: rest) a w :=
  wpList_plain hgd fun K' hK' => by
    obtain ⟨w', h1, h2, h3⟩ := run_update K hT hk H k u
    unfold Oper.wp
    simp [execOp, ho, hm, hx, hv, h1, Result.andThen]
    exact hK' _ _ (h w' h2 h3)
theorem wpList_insert_sl (K : KeyEnc d ek) (hT : P.underlying T = some (.map kt et)) (hk : P.underlying kt = some d) (hgd : o.guard = none) (m x v : Operand) (ho : o.op = .insert T m x v)
    (hm : a.eval m = .map (some b)) (k : κ) (hx : a.eval x = ek k) (u : ν) (hv : a.eval v = ev u) (H : Sat (MapAt ek ev b l * F) w)
    (h : ∀ w', Sat (MapAt ek ev b (aput l k u) * F) w' → Io w w' → wpList P ops Q rest (a.put o.dst undef) w') : wpList P ops Q (o :: rest) a w :=
  wpList_plain hgd fun K' hK' => by
    obtain ⟨w', h1, h2, h3⟩ := run_update K hT hk H k u
    unfold Oper.wp
    simp [execOp, ho, hm, hx, hv, h1, Result.andThen]
    exact hK' _ _ (h w' h2 h3)
theorem wpList_delete_sl (K : KeyEnc d ek) (hT : P.underlying T = some (.map kt et)) (hk : P.underlying kt = some d) (hgd : o.guard = none) (m x : Operand) (kt' : TypeId) (ho : o.op = .call { callee := .builtin .delete, args := #[m, x], argTypes := #[T, kt'] })
    (hm : a.eval m = .map (some b)) (k : κ) (hx : a.eval x = ek k) (H : Sat (MapAt ek ev b l * F) w)
    (h : ∀ w', Sat (MapAt ek ev b (adel l k) * F) w' → Io w w' → wpList P ops Q rest (a.put o.dst (.tuple #[])) w') : wpList P ops Q (o :: rest) a w :=
  wpList_plain hgd fun K' hK' => by
    obtain ⟨w', h1, h2, h3⟩ := run_delete K hT hk H k o.type kt'
    unfold Oper.wp execOp
    simp only [ho, resolve, invoke, builtin, Sem.run_bind, Sem.run_pure, Result.andThen_ok, List.map_toArray, List.map_cons, List.map_nil, hm, hx, h1]
    exact hK' _ _ (h w' h2 h3)
theorem wpList_look_sl (K : KeyEnc d ek) (hT : P.underlying T = some (.map kt et)) (hk : P.underlying kt = some d) (hgd : o.guard = none) (m x : Operand) (ok : Bool) (ho : o.op = .lookup T m x ok)
    (hm : a.eval m = .map (some b)) (k : κ) (hx : a.eval x = ek k) {z : Value} (hz : ∀ w, (zeroValue et).run P w = .ok z w) (H : Sat (MapAt ek ev b l * F) w)
    (h : wpList P ops Q rest (a.put o.dst (if ok then .tuple #[((aget l k).map ev).getD z, .bool (aget l k).isSome] else ((aget l k).map ev).getD z)) w) : wpList P ops Q (o :: rest) a w :=
  wpList_plain hgd fun K' hK' => by
    have h1 := run_lookup K hT hk (hz w) H k ok
    unfold Oper.wp
    simp [execOp, ho, hm, hx, h1, Result.andThen]
    exact hK' _ _ h
theorem run_len_map (hT : P.underlying T = some (.map kt et)) (H : Sat (MapAt ek ev b l * F) w) (ty : TypeId) : (Builtin.len_ #[T] ty #[.map (some b)]).run P w = .ok (.int .i64 (l.length : Int)) w := by
  obtain ⟨es, clock, hs, he, hp⟩ := sat_map.1 H
  have hb := hp.left.at
  have hl : es.size = l.length := by
    have := congrArg List.length he
    simpa [ents] using this
  simp [Builtin.len_, Builtin.lenOf, run_underlying hT, Go.MapKept.run_getObj_map hb, Result.andThen, hl, goInt]
end

/-! ### Ranging. -/
section
variable {κ ν : Type} {d : TypeDesc} {ek : κ → Value} {ev : ν → Value}
/-- Block r is an iterator over the map in block b: these are left; that one came last. -/
def Ranging (ek : κ → Value) (ev : ν → Value) (b r : Nat) (l left : List (κ × ν)) (cur : Option (κ × ν)) : Asn :=
  ex fun p : Array MapEntry × Nat × Array Nat => on (Stamped p.1 p.2.1 ∧ p.1.toList.map kvOf = ents ek ev l ∧ (leftOf p.1 p.2.2).toList.map kvOf = ents ek ev left ∧
    ∀ x, cur = some x → ∃ (e : MapEntry) (seen0 : Array Nat), p.2.2 = seen0.push e.born ∧ e ∈ p.1.toList ∧ kvOf e = (ek x.1, ev x.2)) (pts b (.map p.1 p.2.1) * pts r (.mapIter (some b) p.2.1 p.2.2 p.2.1))
variable {P : Program} {b r : Nat} {l left : List (κ × ν)} {cur : Option (κ × ν)} {F : Asn} {w : World} {T kt et : TypeId}
theorem sat_ranging : Sat (Ranging ek ev b r l left cur * F) w ↔ ∃ es clock seen, (Stamped es clock ∧ es.toList.map kvOf = ents ek ev l ∧ (leftOf es seen).toList.map kvOf = ents ek ev left ∧
    ∀ x, cur = some x → ∃ (e : MapEntry) (seen0 : Array Nat), seen = seen0.push e.born ∧ e ∈ es.toList ∧ kvOf e = (ek x.1, ev x.2)) ∧ Sat (pts b (.map es clock) * (pts r (.mapIter (some b) clock seen clock) * F)) w := by
  unfold Ranging
  rw [sat_ex]
  constructor
  · rintro ⟨⟨es, clock, seen⟩, h⟩
    obtain ⟨h1, h3⟩ := sat_on.1 h
    exact ⟨es, clock, seen, h1, h3.of_eq (star_assoc _ _ _)⟩
  · rintro ⟨es, clock, seen, h1, h3⟩
    exact ⟨(es, clock, seen), sat_on.2 ⟨h1, h3.of_eq (star_assoc _ _ _).symm⟩⟩
theorem Ranging.stop (H : Sat (Ranging ek ev b r l left cur * F) w) : Sat (MapAt ek ev b l * F) w := by
  obtain ⟨es, clock, seen, ⟨h1, h2, _⟩, h3⟩ := sat_ranging.1 H
  exact sat_map.2 ⟨es, clock, h1, h2, (h3.of_eq (show _ = pts r (.mapIter (some b) clock seen clock) * (pts b (.map es clock) * F) from by ac_rfl)).right⟩
theorem Ranging.forget (H : Sat (Ranging ek ev b r l left cur * F) w) : Sat (Ranging ek ev b r l left none * F) w := by
  obtain ⟨es, clock, seen, ⟨h1, h2, h4, _⟩, h3⟩ := sat_ranging.1 H
  exact sat_ranging.2 ⟨es, clock, seen, ⟨h1, h2, h4, fun _ h => by cases h⟩, h3⟩
theorem leftOf_none (es : Array MapEntry) : leftOf es #[] = es := by
  unfold leftOf
  exact Array.filter_eq_self.2 fun a _ => by simp
theorem run_range (hT : P.underlying T = some (.map kt et)) (H : Sat (MapAt ek ev b l * F) w) :
    ∃ w', (Instr.range T (.map (some b))).run P w = .ok (.pointer (some ⟨w.heap.size, 0, none⟩)) w' ∧ Sat (Ranging ek ev b w.heap.size l l none * F) w' ∧ Io w w' := by
  obtain ⟨es, clock, h1, h2, h3⟩ := sat_map.1 H
  refine ⟨_, run_range_map w T kt et b es clock hT h3.left.at, sat_ranging.2 ⟨es, clock, #[], ⟨h1, h2, by rw [leftOf_none]; exact h2, fun _ h => by cases h⟩, ?_⟩, (Io.refl w).alloc _⟩
  exact (h3.new _).of_eq (show pts w.heap.size _ * (pts b _ * F) = _ from by ac_rfl)
theorem left_split {es : Array MapEntry} {seen : Array Nat} (hn : (es.toList.map (·.born)).Nodup) {e : MapEntry} {L1 L2 : List MapEntry} (h : (leftOf es seen).toList = L1 ++ e :: L2) : (leftOf es (seen.push e.born)).toList = L1 ++ L2 := by
  have hsub : ((leftOf es seen).toList.map (·.born)).Nodup := by
    unfold leftOf
    rw [Array.toList_filter]
    exact hn.sublist (List.filter_sublist.map _)
  have e1 : (leftOf es (seen.push e.born)).toList = (leftOf es seen).toList.filter fun x => decide (x.born ≠ e.born) := by
    unfold leftOf
    rw [Array.toList_filter, Array.toList_filter, List.filter_filter]
    refine List.filter_congr fun x _ => ?_
    rw [Array.contains_push]
    cases hq : (x.born == e.born)
    · have : x.born ≠ e.born := by simpa using hq
      have : e.born ≠ x.born := this.symm
      simp_all
    · have : x.born = e.born := by simpa using hq
      simp_all
  rw [h, List.map_append, List.map_cons, List.nodup_append, List.nodup_cons] at hsub
  obtain ⟨_, ⟨g1, _⟩, g2⟩ := hsub
  rw [e1, h, List.filter_append, List.filter_cons]
  simp only [ne_eq, not_true, decide_false, Bool.false_eq_true, if_false]
  rw [List.filter_eq_self.2, List.filter_eq_self.2]
  · intro x hx
    have : x.born ≠ e.born := fun q => g1 (q ▸ List.mem_map.2 ⟨x, hx, rfl⟩)
    simpa using this
  · intro x hx
    have : x.born ≠ e.born := fun q => g2 _ (List.mem_map.2 ⟨x, hx, rfl⟩) _ (.head _) q
    simpa using this
theorem run_next (H : Sat (Ranging ek ev b r l left cur * F) w) (ty : TypeId) :
    (left = [] ∧ (Instr.next (.pointer (some ⟨r, 0, none⟩)) false ty).run P w = .ok (.tuple #[.bool false]) w) ∨
    ∃ l1 x l2 w', left = l1 ++ x :: l2 ∧ (Instr.next (.pointer (some ⟨r, 0, none⟩)) false ty).run P w = .ok (.tuple #[.bool true, ek x.1, ev x.2]) w' ∧ Sat (Ranging ek ev b r l (l1 ++ l2) (some x) * F) w' ∧ Io w w' := by
  obtain ⟨es, clock, seen, ⟨⟨hs1, hs2, hs3⟩, he, hl, _⟩, hp⟩ := sat_ranging.1 H
  have hb := hp.left.at
  have hr := hp.right.left.at
  rcases run_next_at (P := P) w ty r b clock clock seen es clock hr hb hs1 (Nat.le_refl _) with ⟨h0, h1⟩ | ⟨e, hmem, w1, hw1, hrun⟩
  · left
    refine ⟨?_, h1⟩
    have : (leftOf es seen).toList = [] := by
      have := Array.eq_empty_of_size_eq_zero h0
      rw [this]
    rw [this] at hl
    exact List.map_eq_nil_iff.1 hl.symm
  · right
    obtain ⟨L1, L2, hL⟩ := List.append_of_mem hmem
    rw [hL, List.map_append, List.map_cons] at hl
    obtain ⟨l1, l2', e1, e2, e3⟩ := List.map_eq_append_iff.1 hl.symm
    obtain ⟨x, l2, e4, e5, e6⟩ := List.map_eq_cons_iff.1 e3
    subst e4
    have ek1 : ek x.1 = e.key := congrArg Prod.fst e5
    have ev1 : ev x.2 = e.val := congrArg Prod.snd e5
    have hmes : e ∈ es.toList := by
      unfold leftOf at hmem
      rw [Array.toList_filter] at hmem
      exact (List.mem_filter.1 hmem).1
    have heap1 : w1.heap = w.heap := by rcases hw1 with rfl | rfl <;> rfl
    refine ⟨l1, x, l2, _, e1, by rw [hrun, ek1, ev1], ?_, ?_⟩
    · refine sat_ranging.2 ⟨es, clock, seen.push e.born, ⟨⟨hs1, hs2, hs3⟩, he, ?_, ?_⟩, ?_⟩
      · rw [left_split hs2 hL, List.map_append, e2.symm, e6.symm]
        simp [ents]
      · intro y hy
        cases hy
        exact ⟨e, seen, rfl, hmes, by rw [ek1, ev1]; rfl⟩
      · have hp1 : Sat (pts r (.mapIter (some b) clock seen clock) * (pts b (.map es clock) * F)) w1 := (hp.keep fun k _ => by rw [heap1]).of_eq (by ac_rfl)
        have hr1 : w1.heap[r]? = some (.mapIter (some b) clock seen clock) := by rw [heap1]; exact hr
        refine (hp1.set (w' := setBlock w1 r (.mapIter (some b) clock (seen.push e.born) clock)) ?_ ?_).of_eq (by ac_rfl)
        · exact (heap_set hr1).1
        · exact fun k _ hne => (heap_set hr1).2 k hne
    · have hsz : w.heap.size ≤ (setBlock w1 r (.mapIter (some b) clock (seen.push e.born) clock)).heap.size := by simp [setBlock, heap1]
      rcases hw1 with rfl | rfl <;> exact ⟨rfl, rfl, rfl, hsz⟩
theorem run_entry {x : κ × ν} (H : Sat (Ranging ek ev b r l left (some x) * F) w) : (Instr.entry (.pointer (some ⟨r, 0, none⟩))).run P w = .ok (.tuple #[ek x.1, ev x.2]) w := by
  obtain ⟨es, clock, seen, ⟨⟨hs1, hs2, hs3⟩, he, hl, hc⟩, hp⟩ := sat_ranging.1 H
  obtain ⟨e, seen0, rfl, hm, hkv⟩ := hc x rfl
  have hb := hp.left.at
  have hr := hp.right.left.at
  rw [run_entry_at w r b clock seen0 es clock e hr hb hm hs2]
  have e1 : e.key = ek x.1 := congrArg Prod.fst hkv
  have e2 : e.val = ev x.2 := congrArg Prod.snd hkv
  rw [e1, e2]
variable {ops : Array Oper} {rest : List Oper} {o : Oper} {a : Act} {Q : Exit → Act → World → Prop}
theorem wpList_range_sl (hT : P.underlying T = some (.map kt et)) (hgd : o.guard = none) (m : Operand) (ho : o.op = .range T m) (hm : a.eval m = .map (some b)) (H : Sat (MapAt ek ev b l * F) w)
    (h : ∀ w', Sat (Ranging ek ev b w.heap.size l l none * F) w' → Io w w' → wpList P ops Q rest (a.put o.dst (.pointer (some ⟨w.heap.size, 0, none⟩))) w') : wpList P ops Q (o :: rest) a w :=
  wpList_plain hgd fun K' hK' => by
    obtain ⟨w', h1, h2, h3⟩ := run_range (P := P) hT H
    unfold Oper.wp
    simp [execOp, ho, hm, h1, Result.andThen]
    exact hK' _ _ (h _ h2 h3)
theorem wpList_next_sl (hgd : o.guard = none) (it : Operand) (ho : o.op = .next it false) (hi : a.eval it = .pointer (some ⟨r, 0, none⟩)) (H : Sat (Ranging ek ev b r l left cur * F) w)
    (h0 : left = [] → wpList P ops Q rest (a.put o.dst (.tuple #[.bool false])) w)
    (h1 : ∀ l1 x l2 w', left = l1 ++ x :: l2 → Sat (Ranging ek ev b r l (l1 ++ l2) (some x) * F) w' → Io w w' → wpList P ops Q rest (a.put o.dst (.tuple #[.bool true, ek x.1, ev x.2])) w') : wpList P ops Q (o :: rest) a w :=
  wpList_plain hgd fun K' hK' => by
    rcases run_next (P := P) H o.type with ⟨e, hr⟩ | ⟨l1, x, l2, w', e, hr, h2, h3⟩
    · unfold Oper.wp
      simp [execOp, ho, hi, hr, Result.andThen]
      exact hK' _ _ (h0 e)
    · unfold Oper.wp
      simp [execOp, ho, hi, hr, Result.andThen]
      exact hK' _ _ (h1 l1 x l2 w' e h2 h3)
end
end Go.Proofs.YtabpgejjnphfcaaGreat
