/-
  Maps in the small separation logic: a map's block as a list of keys and values; its operations, at the run. No program in sight. It proves no statement by itself.
-/
import Derived.Test.YtojiffhknddleaaGreatDoorV01
import Derived.MapKept
import Derived.Maps.OwnSet
import Derived.Maps.RangeWalk
import Derived.OwnWalk
namespace Go.Proofs.YtojiffhknddleaaGreatDoor
open Go.RowKit Go.MapKept
open Go.ChangeMaps (setBlock)
set_option linter.unusedSimpArgs false
set_option linter.unusedVariables false
set_option linter.unusedSectionVars false

section
variable {κ ν : Type} [DecidableEq κ]
/-- What stands at a key. -/
def aget : List (κ × ν) → κ → Option ν
  | [], _ => none
  | (a, v) :: l, k => if a = k then some v else aget l k
/-- With a value at a key. -/
def aput : List (κ × ν) → κ → ν → List (κ × ν)
  | [], k, v => [(k, v)]
  | (a, u) :: l, k, v => if a = k then (k, v) :: l else (a, u) :: aput l k v
/-- Without a key. -/
def adel (l : List (κ × ν)) (k : κ) : List (κ × ν) := l.filter fun p => decide (p.1 ≠ k)
theorem aget_put_same (l : List (κ × ν)) (k : κ) (v : ν) : aget (aput l k v) k = some v := by
  induction l with
  | nil => simp [aput, aget]
  | cons p l ih =>
    obtain ⟨a, u⟩ := p
    unfold aput
    split
    · simp [aget]
    · rename_i h; simp [aget, h, ih]
theorem aget_put_other (l : List (κ × ν)) {k q : κ} (v : ν) (h : k ≠ q) : aget (aput l k v) q = aget l q := by
  induction l with
  | nil => simp [aput, aget, h]
  | cons p l ih =>
    obtain ⟨a, u⟩ := p
    unfold aput
    split
    · rename_i e; subst e; simp [aget, h]
    · simp only [aget, ih]
theorem aget_mem {l : List (κ × ν)} {k : κ} {v : ν} (h : aget l k = some v) : (k, v) ∈ l := by
  induction l with
  | nil => cases h
  | cons p l ih =>
    obtain ⟨a, u⟩ := p
    unfold aget at h
    split at h
    · rename_i e; cases h; subst e; exact .head _
    · exact .tail _ (ih h)
theorem aget_none {l : List (κ × ν)} {k : κ} : aget l k = none ↔ ∀ p ∈ l, p.1 ≠ k := by
  induction l with
  | nil => simp [aget]
  | cons p l ih =>
    obtain ⟨a, u⟩ := p
    unfold aget
    split
    · rename_i e; subst e; simp
    · rename_i e; rw [ih]; simp [e]
theorem aget_of_mem {l : List (κ × ν)} (hn : (l.map (·.1)).Nodup) {k : κ} {v : ν} (h : (k, v) ∈ l) : aget l k = some v := by
  induction l with
  | nil => cases h
  | cons p l ih =>
    obtain ⟨a, u⟩ := p
    rw [List.map_cons, List.nodup_cons] at hn
    unfold aget
    rcases List.mem_cons.1 h with e | h
    · cases e; simp
    · have : a ≠ k := by
        rintro rfl
        exact hn.1 (List.mem_map.2 ⟨_, h, rfl⟩)
      rw [if_neg this]
      exact ih hn.2 h
theorem adel_none {l : List (κ × ν)} {k : κ} (h : aget l k = none) : adel l k = l := by
  rw [aget_none] at h
  exact List.filter_eq_self.2 fun p hp => by simpa using h p hp
theorem aget_del_same (l : List (κ × ν)) (k : κ) : aget (adel l k) k = none := by
  rw [aget_none]
  intro p hp
  simpa using (List.mem_filter.1 hp).2
theorem aget_del_other (l : List (κ × ν)) {k q : κ} (h : k ≠ q) : aget (adel l k) q = aget l q := by
  unfold adel
  induction l with
  | nil => rfl
  | cons p l ih =>
    obtain ⟨a, u⟩ := p
    rw [List.filter_cons]
    by_cases e : a = k
    · subst e
      simp only [ne_eq, not_true, decide_false, if_false, aget, h, Bool.false_eq_true]
      exact ih
    · simp only [ne_eq, e, not_false_eq_true, decide_true, if_true, aget]
      rw [ih]
theorem aput_none {l : List (κ × ν)} {k : κ} (h : aget l k = none) (v : ν) : aput l k v = l ++ [(k, v)] := by
  induction l with
  | nil => rfl
  | cons p l ih =>
    obtain ⟨a, u⟩ := p
    unfold aget at h
    split at h
    · cases h
    · rename_i e
      simp only [aput, if_neg e, ih h, List.cons_append]
theorem aput_keys {l : List (κ × ν)} {k : κ} {v u : ν} (h : aget l k = some u) : (aput l k v).map (·.1) = l.map (·.1) := by
  induction l with
  | nil => cases h
  | cons p l ih =>
    obtain ⟨a, x⟩ := p
    unfold aget at h
    simp only [aput]
    split at h
    · rename_i e; subst e; simp
    · rename_i e; simp [e, ih h]
theorem aput_nodup {l : List (κ × ν)} (hn : (l.map (·.1)).Nodup) (k : κ) (v : ν) : ((aput l k v).map (·.1)).Nodup := by
  cases h : aget l k with
  | some u => rw [aput_keys h]; exact hn
  | none =>
    rw [aput_none h, List.map_append, List.nodup_append]
    rw [aget_none] at h
    refine ⟨hn, by simp, ?_⟩
    rintro a ha b hb rfl
    obtain ⟨p, hp, rfl⟩ := List.mem_map.1 ha
    simp only [List.map_cons, List.map_nil, List.mem_singleton] at hb
    exact h p hp hb
theorem mem_aput {l : List (κ × ν)} {k : κ} {v : ν} {p : κ × ν} (h : p ∈ aput l k v) : p = (k, v) ∨ p ∈ l := by
  induction l with
  | nil => simp only [aput, List.mem_singleton] at h; exact .inl h
  | cons q l ih =>
    obtain ⟨a, u⟩ := q
    simp only [aput] at h
    split at h
    · rcases List.mem_cons.1 h with h | h
      · exact .inl h
      · exact .inr (.tail _ h)
    · rcases List.mem_cons.1 h with h | h
      · exact .inr (h ▸ .head _)
      · exact (ih h).imp id (.tail _)
theorem mem_adel {l : List (κ × ν)} {k : κ} {p : κ × ν} (h : p ∈ adel l k) : p ∈ l := (List.mem_filter.1 h).1
end

/-- How keys lie. -/
structure KeyEnc {κ : Type} (d : TypeDesc) (ek : κ → Value) : Prop where
  key : ∀ k, IsKey d (ek k)
  inj : ∀ {a b}, ek a = ek b → a = b
theorem intKey : KeyEnc (.int .i64) (fun n : Int => Value.int .i64 n) := ⟨fun _ => rfl, fun h => by cases h; rfl⟩
def kvOf (e : MapEntry) : Value × Value := (e.key, e.val)
section
variable {κ ν : Type}
def ents (ek : κ → Value) (ev : ν → Value) (l : List (κ × ν)) : List (Value × Value) := l.map fun x => (ek x.1, ev x.2)
/-- Block b is a map of these keys and values, in this order. -/
def MapAt (ek : κ → Value) (ev : ν → Value) (b : Nat) (l : List (κ × ν)) : Asn := ex fun p : Array MapEntry × Nat => on (Stamped p.1 p.2 ∧ p.1.toList.map kvOf = ents ek ev l) (pts b (.map p.1 p.2))
variable {ek : κ → Value} {ev : ν → Value} {b : Nat} {l : List (κ × ν)} {F : Asn} {w : World}
theorem sat_map : Sat (MapAt ek ev b l * F) w ↔ ∃ es clock, Stamped es clock ∧ es.toList.map kvOf = ents ek ev l ∧ Sat (pts b (.map es clock) * F) w := by
  unfold MapAt
  rw [sat_ex]
  constructor
  · rintro ⟨⟨es, clock⟩, h⟩
    obtain ⟨⟨h1, h2⟩, h3⟩ := sat_on.1 h
    exact ⟨es, clock, h1, h2, h3⟩
  · rintro ⟨es, clock, h1, h2, h3⟩
    exact ⟨(es, clock), sat_on.2 ⟨⟨h1, h2⟩, h3⟩⟩
theorem map_new (H : Sat F w) : Sat (MapAt ek ev w.heap.size [] * F) (w.alloc (.map #[] 0)) := sat_map.2 ⟨#[], 0, stamped_empty 0, rfl, H.new _⟩
theorem keys_nodup (H : Sat (MapAt ek ev b l * F) w) : (l.map (·.1)).Nodup := by
  obtain ⟨es, clock, ⟨_, _, hk⟩, h2, _⟩ := sat_map.1 H
  have e : es.toList.map (·.key) = (l.map (·.1)).map ek := by
    have := congrArg (List.map Prod.fst) h2
    simpa [ents, kvOf, List.map_map, Function.comp_def] using this
  rw [e] at hk
  exact List.Pairwise.of_map ek (fun a b h e => h (congrArg ek e)) hk
end
section
variable {κ ν : Type} [DecidableEq κ] {d : TypeDesc} {ek : κ → Value} {ev : ν → Value}
theorem isKey_ents (K : KeyEnc d ek) {L : List MapEntry} {l : List (κ × ν)} (h : L.map kvOf = ents ek ev l) : ∀ x ∈ L, IsKey d x.key := by
  intro x hx
  have : kvOf x ∈ ents ek ev l := h ▸ List.mem_map.2 ⟨x, hx, rfl⟩
  obtain ⟨y, _, hy⟩ := List.mem_map.1 this
  have e : ek y.1 = x.key := congrArg Prod.fst hy
  rw [← e]
  exact K.key _
theorem find_list (K : KeyEnc d ek) (k : κ) : ∀ (L : List MapEntry) (l : List (κ × ν)) (i : Nat), L.map kvOf = ents ek ev l →
    (Instr.findNow d (ek k) L i = some none ∧ aget l k = none ∧ ∀ x ∈ L, x.key ≠ ek k) ∨
    ∃ j e v, Instr.findNow d (ek k) L i = some (some (i + j, e.val)) ∧ L[j]? = some e ∧ e.key = ek k ∧ e.val = ev v ∧ aget l k = some v ∧
      (∀ u, (L.modify j fun e => { e with key := ek k, val := ev u }).map kvOf = ents ek ev (aput l k u)) ∧ ((l.map (·.1)).Nodup → (L.eraseIdx j).map kvOf = ents ek ev (adel l k))
  | [], [], _, _ => .inl ⟨rfl, rfl, by simp⟩
  | [], _ :: _, _, h => by cases h
  | _ :: _, [], _, h => by cases h
  | x :: L, (a, u0) :: l, i, h => by
    obtain ⟨h1, h2⟩ := List.cons.inj h
    have ex : x.key = ek a := congrArg Prod.fst h1
    have ev0 : x.val = ev u0 := congrArg Prod.snd h1
    obtain ⟨r, hr, hiff⟩ := sameNow_of_keys (K.key k) (b := x.key) (ex ▸ K.key a)
    by_cases hak : a = k
    · subst hak
      obtain rfl : r = true := hiff.2 ex.symm
      refine .inr ⟨0, x, u0, by simp [Instr.findNow, hr], rfl, ex, ev0, by simp [aget], fun u => ?_, fun hn => ?_⟩
      · simp only [aput, if_true, List.modify_zero_cons, List.map_cons, ents, kvOf]
        exact congrArg _ h2
      · rw [List.map_cons, List.nodup_cons] at hn
        have : adel ((a, u0) :: l) a = l := by
          unfold adel
          rw [List.filter_cons]
          simp only [ne_eq, not_true, decide_false, Bool.false_eq_true, if_false]
          refine List.filter_eq_self.2 fun p hp => ?_
          have : p.1 ≠ a := fun e => hn.1 (e ▸ List.mem_map.2 ⟨p, hp, rfl⟩)
          simpa using this
        rw [this]
        exact h2
    · have hne : x.key ≠ ek k := fun e => hak (K.inj (ex ▸ e))
      have hr0 : r = false := by
        cases r
        · rfl
        · exact absurd (hiff.1 rfl).symm hne
      subst hr0
      rcases find_list K k L l (i + 1) h2 with ⟨f1, f2, f3⟩ | ⟨j, e, v, f1, f2, f3, f4, f5, f6, f7⟩
      · refine .inl ⟨by simp [Instr.findNow, hr, f1], by simp [aget, hak, f2], fun y hy => ?_⟩
        rcases List.mem_cons.1 hy with rfl | hy
        · exact hne
        · exact f3 y hy
      · refine .inr ⟨j + 1, e, v, by simp [Instr.findNow, hr, f1]; omega, by simpa using f2, f3, f4, by simp [aget, hak, f5], fun u => ?_, fun hn => ?_⟩
        · simp only [aput, if_neg hak, List.modify_succ_cons, List.map_cons, ents]
          have := f6 u
          unfold ents at this
          rw [this]
          exact congrArg (· :: _) h1
        · rw [List.map_cons, List.nodup_cons] at hn
          have := f7 hn.2
          have e2 : adel ((a, u0) :: l) k = (a, u0) :: adel l k := by
            unfold adel
            rw [List.filter_cons]
            simp [hak]
          rw [e2]
          simp only [List.eraseIdx_cons_succ, List.map_cons, ents]
          unfold ents at this
          rw [this]
          exact congrArg (· :: _) h1
variable {P : Program} {b : Nat} {l : List (κ × ν)} {F : Asn} {w : World} {T kt et : TypeId}
/-- `m[k]`, `v, ok := m[k]`. -/
theorem run_lookup (K : KeyEnc d ek) (hT : P.underlying T = some (.map kt et)) (hk : P.underlying kt = some d) {z : Value} (hz : (zeroValue et).run P w = .ok z w) (H : Sat (MapAt ek ev b l * F) w) (k : κ) (ok : Bool) :
    (Instr.lookup T (.map (some b)) (ek k) ok).run P w = .ok (if ok then .tuple #[((aget l k).map ev).getD z, .bool (aget l k).isSome] else ((aget l k).map ev).getD z) w := by
  obtain ⟨es, clock, hs, he, hp⟩ := sat_map.1 H
  have hb := hp.left.at
  rcases find_list K k es.toList l 0 he with ⟨f1, f2, f3⟩ | ⟨j, e, v, f1, f2, f3, f4, f5, _⟩
  · simp [Instr.lookup, run_underlying hT, Go.MapKept.run_getObj_map hb, run_checkKey hk (K.key k), run_findKey hk f1, Result.andThen, hz, f2]
  · simp [Instr.lookup, run_underlying hT, Go.MapKept.run_getObj_map hb, run_checkKey hk (K.key k), run_findKey hk f1, Result.andThen, f5, f4]
/-- `m[k] = v`. -/
theorem run_update (K : KeyEnc d ek) (hT : P.underlying T = some (.map kt et)) (hk : P.underlying kt = some d) (H : Sat (MapAt ek ev b l * F) w) (k : κ) (v : ν) :
    ∃ w', (Instr.mapUpdate T (.map (some b)) (ek k) (ev v)).run P w = .ok () w' ∧ Sat (MapAt ek ev b (aput l k v) * F) w' ∧ Io w w' := by
  obtain ⟨es, clock, hs, he, hp⟩ := sat_map.1 H
  have hb := hp.left.at
  have hks := isKey_ents K he
  rcases find_list K k es.toList l 0 he with ⟨f1, f2, f3⟩ | ⟨j, e, v0, f1, f2, f3, f4, f5, f6, _⟩
  · refine ⟨{ w with heap := w.heap.setIfInBounds b (.map (es.push { key := ek k, val := ev v, born := clock }) (clock + 1)) }, ?_, ?_, ⟨rfl, rfl, rfl, by simp⟩⟩
    · simp [Instr.mapUpdate, run_underlying hT, Go.MapKept.run_getObj_map hb, run_checkKey hk (K.key k), run_findKey hk f1, run_setObj_map _ hb, Result.andThen]
    · refine sat_map.2 ⟨_, _, stamped_push hs f3, ?_, hp.set (heap_set hb).1 fun k' _ hne => (heap_set hb).2 k' hne⟩
      rw [aput_none f2]
      simp only [Array.toList_push, List.map_append, he, ents, List.map_cons, List.map_nil, kvOf]
  · have hj : es[j]? = some e := by simpa using f2
    refine ⟨{ w with heap := w.heap.setIfInBounds b (.map (es.modify j fun e => { e with key := ek k, val := ev v }) clock) }, ?_, ?_, ⟨rfl, rfl, rfl, by simp⟩⟩
    · simp [Instr.mapUpdate, run_underlying hT, Go.MapKept.run_getObj_map hb, run_checkKey hk (K.key k), run_findKey hk f1, hj, f3, run_keyThatStays (K.key k), run_setObj_map _ hb, Result.andThen]
    · have hkey : ∀ e', es[j]? = some e' → ({ e' with key := ek k, val := ev v } : MapEntry).key = e'.key := fun e' he' => by rw [hj] at he'; cases he'; exact f3.symm
      refine sat_map.2 ⟨es.modify j fun e => { e with key := ek k, val := ev v }, clock, stamped_modify hs j (fun e => { e with key := ek k, val := ev v }) (fun _ _ => rfl) (fun e' _ he' => hkey e' he'), ?_, hp.set (heap_set hb).1 fun k' _ hne => (heap_set hb).2 k' hne⟩
      rw [← f6 v, Array.toList_modify]
/-- `delete(m, k)`. -/
theorem run_delete (K : KeyEnc d ek) (hT : P.underlying T = some (.map kt et)) (hk : P.underlying kt = some d) (H : Sat (MapAt ek ev b l * F) w) (k : κ) (ty kt' : TypeId) :
    ∃ w', (Builtin.delete_ #[T, kt'] ty #[.map (some b), ek k]).run P w = .ok (.tuple #[]) w' ∧ Sat (MapAt ek ev b (adel l k) * F) w' ∧ Io w w' := by
  have hn := keys_nodup H
  obtain ⟨es, clock, hs, he, hp⟩ := sat_map.1 H
  have hb := hp.left.at
  rcases find_list K k es.toList l 0 he with ⟨f1, f2, f3⟩ | ⟨j, e, v0, f1, f2, f3, f4, f5, _, f7⟩
  · refine ⟨{ w with heap := w.heap.setIfInBounds b (.map es clock) }, ?_, ?_, ⟨rfl, rfl, rfl, by simp⟩⟩
    · simp [Builtin.delete_, run_underlying hT, Go.MapKept.run_getObj_map hb, run_checkKey hk (K.key k), run_findKey hk f1, run_setObj_map _ hb, Result.andThen]
    · rw [adel_none f2]
      exact sat_map.2 ⟨_, _, hs, he, hp.set (heap_set hb).1 fun k' _ hne => (heap_set hb).2 k' hne⟩
  · refine ⟨{ w with heap := w.heap.setIfInBounds b (.map (es.eraseIdxIfInBounds j) clock) }, ?_, ?_, ⟨rfl, rfl, rfl, by simp⟩⟩
    · simp [Builtin.delete_, run_underlying hT, Go.MapKept.run_getObj_map hb, run_checkKey hk (K.key k), run_findKey hk f1, run_setObj_map _ hb, Result.andThen]
    · refine sat_map.2 ⟨_, _, stamped_erase hs _, ?_, hp.set (heap_set hb).1 fun k' _ hne => (heap_set hb).2 k' hne⟩
      have hlt : j < es.size := by
        have := (List.getElem?_eq_some_iff.1 f2).1
        simpa using this
      rw [← f7 hn, Array.eraseIdxIfInBounds, dif_pos hlt, Array.toList_eraseIdx]
end
section
variable {κ ν : Type} {d : TypeDesc} {ek : κ → Value} {ev : ν → Value} {P : Program} {b : Nat} {l : List (κ × ν)} {F : Asn} {w : World} {T kt et : TypeId}
end
end Go.Proofs.YtojiffhknddleaaGreatDoor

/-
  Maps in the small separation logic: the laws at the operations of a walk, and ranging over a map. No program in sight. It proves no statement by itself.
-/
namespace Go.Proofs.YtojiffhknddleaaGreatDoor
open Go.RowKit Go.MapKept
open Go.ChangeMaps (setBlock)
set_option linter.unusedSimpArgs false
set_option linter.unusedVariables false
set_option linter.unusedSectionVars false

section
variable {κ ν : Type} [DecidableEq κ] {d : TypeDesc} {ek : κ → Value} {ev : ν → Value} {P : Program} {b : Nat} {l : List (κ × ν)} {F : Asn} {w : World} {T kt et : TypeId}
  {ops : Array Oper} {rest : List Oper} {o : Oper} {a : Act} {Q : Exit → Act → World → Prop}
end

/-! ### Ranging. -/
section
variable {κ ν : Type} {d : TypeDesc} {ek : κ → Value} {ev : ν → Value}
/-- Block r is an iterator over the map in block b: these are left; that one came last. -/
def Ranging (ek : κ → Value) (ev : ν → Value) (b r : Nat) (l left : List (κ × ν)) (cur : Option (κ × ν)) : Asn :=
  ex fun p : Array MapEntry × Nat × Array Nat => on (Stamped p.1 p.2.1 ∧ p.1.toList.map kvOf = ents ek ev l ∧ (leftOf p.1 p.2.2).toList.map kvOf = ents ek ev left ∧
    ∀ x, cur = some x → ∃ (e : MapEntry) (seen0 : Array Nat), p.2.2 = seen0.push e.born ∧ e ∈ p.1.toList ∧ kvOf e = (ek x.1, ev x.2)) (pts b (.map p.1 p.2.1) * pts r (.mapIter (some b) p.2.1 p.2.2 p.2.1))
variable {P : Program} {b r : Nat} {l left : List (κ × ν)} {cur : Option (κ × ν)} {F : Asn} {w : World} {T kt et : TypeId}
theorem sat_ranging : Sat (Ranging ek ev b r l left cur * F) w ↔ ∃ es clock seen, (Stamped es clock ∧ es.toList.map kvOf = ents ek ev l ∧ (leftOf es seen).toList.map kvOf = ents ek ev left ∧
    ∀ x, cur = some x → ∃ (e : MapEntry) (seen0 : Array Nat), seen = seen0.push e.born ∧ e ∈ es.toList ∧ kvOf e = (ek x.1, ev x.2)) ∧ Sat (pts b (.map es clock) * (pts r (.mapIter (some b) clock seen clock) * F)) w := by
  unfold Ranging
  rw [sat_ex]
  constructor
  · rintro ⟨⟨es, clock, seen⟩, h⟩
    obtain ⟨h1, h3⟩ := sat_on.1 h
    exact ⟨es, clock, seen, h1, h3.of_eq (star_assoc _ _ _)⟩
  · rintro ⟨es, clock, seen, h1, h3⟩
    exact ⟨(es, clock, seen), sat_on.2 ⟨h1, h3.of_eq (star_assoc _ _ _).symm⟩⟩
theorem Ranging.stop (H : Sat (Ranging ek ev b r l left cur * F) w) : Sat (MapAt ek ev b l * F) w := by
  obtain ⟨es, clock, seen, ⟨h1, h2, _⟩, h3⟩ := sat_ranging.1 H
  exact sat_map.2 ⟨es, clock, h1, h2, (h3.of_eq (show _ = pts r (.mapIter (some b) clock seen clock) * (pts b (.map es clock) * F) from by ac_rfl)).right⟩
variable {ops : Array Oper} {rest : List Oper} {o : Oper} {a : Act} {Q : Exit → Act → World → Prop}
end
end Go.Proofs.YtojiffhknddleaaGreatDoor
