/-
  append on slices that are owned, and maps with whole numbers for keys, in the words of the small separation logic. It proves no statement by itself.
-/
import Derived.Test.YtojiffhknddleaaGreatDoorV01
import Derived.StillTailTactics
import Derived.Lib.Hide
import Derived.Laws.CopyOwn
import Derived.Deep.RegionLaw
import Derived.BigRegion
import Derived.BigQuiet
import Derived.Deep.QuietTactic
namespace Go.Proofs.YtojiffhknddleaaGreatDoor
open Go.RowKit
set_option linter.unusedSimpArgs false
set_option linter.unusedVariables false

section
variable {P : Program}

/-- append to a slice that is owned: what comes back is owned. -/
theorem run_append_sl {R : Asn} (w : World) (t ty e : TypeId) {i : TypeInfo} {z : Value} {size bytes : Nat} (ht : P.underlying t = some (.slice e)) (hi : P.info? e = some i) (hz : i.zero = some z)
    (hsize : i.size = size) (hby : i.bytes = bytes) (hzs : z.cells.size = size)
    {v : Value} {n : Nat} {xs : List Value} (H : Sat (Row e size v n xs * R) w)
    (a : Addr) (m c : Nat) (news : List Value) (hl : news.length = m * size) (hnews : ∀ j u, news[j]? = some u → w.cell? (a.add j) = some u) (h1 : ∀ u ∈ news, u.oneCell' = true)
    (h63 : n + m ≤ maxLen) (hbytes : (n + m) * bytes ≤ 140737488355328) :
    ∃ v' w', (Builtin.append_ #[t, t] ty #[v, .slice (some a) m c]).run P w = .ok v' w' ∧ Sat (Row e size v' (n + m) (xs ++ news) * R) w' ∧ Io w w' := by
  subst hsize
  subst hby
  have hsmall : n + m ≤ 9223372036854775807 := by simp only [maxLen] at h63; omega
  obtain ⟨hx, hc⟩ := sat_row.1 H
  have hlen : (xs ++ news).length = (n + m) * i.size := by rw [List.length_append, hx, hl, Nat.add_mul]
  have grown : ∀ old, Sat R w → Sat (Row e i.size (.slice (some ⟨w.heap.size, 0, none⟩) (n + m) (grownCap w (n + m) old e)) (n + m) (xs ++ news) * R)
      (w.drew.alloc (.cells (xs.toArray ++ news.toArray ++ Builtin.zeroCells z.cells (grownCap w (n + m) old e - (n + m))) e)) := by
    intro old hR
    have hge := grownCap_ge w (n + m) old e
    have hcm : grownCap w (n + m) old e ≤ maxLen := grownCap_le_maxLen w (n + m) old e h63
    refine sat_row.2 ⟨hlen, .inr ⟨w.heap.size, _, _, rfl, hge, hcm, ?_, ?_, (Sat.drew hR).new _⟩⟩
    · simp only [Array.size_append, List.size_toArray, size_zeroCells, hzs, hx, hl, ← Nat.add_mul]
      congr 1
      omega
    · simp only [Array.toList_append, List.append_assoc]
      rw [← List.append_assoc, ← hlen]
      exact List.take_left
  rcases hc with ⟨rfl, rfl, hR⟩ | ⟨g, cap, cur, rfl, hnc, hcm, hcs, htake, hR⟩
  · have hx0 : xs = [] := List.eq_nil_of_length_eq_zero (by simpa using hx)
    subst hx0
    by_cases hm : m = 0
    · subst hm
      have hn : news = [] := List.eq_nil_of_length_eq_zero (by simpa using hl)
      subst hn
      refine ⟨.slice none 0 0, w, ?_, row_nil _ _ _ _ hR, Io.refl _⟩
      simp [Builtin.append_, run_underlying ht, sizeOf, typeInfo, hi, Builtin.lenOf, Builtin.firstCells, loadCells, loadCellsFrom]
    · have hr := run_append_nil (P := P) w t ty e i z ht hi hz a m c news hl hnews (by omega) (by omega) (by have hb := hbytes; simp only [Nat.zero_add] at hb; omega)
      have hgr := grown 0 hR
      simp only [Nat.zero_add, List.nil_append, Array.empty_append] at hgr ⊢
      exact ⟨_, _, hr, hgr, ((Io.refl w).drew).alloc _⟩
  · have hg := hR.left.at
    by_cases hroom : n + m ≤ cap
    · have hfit : n * i.size + news.length ≤ cur.size := by rw [hl, hcs, ← Nat.add_mul]; exact Nat.mul_le_mul_right _ hroom
      have hr := run_append_room (P := P) w t ty e i ht hi g n cap cur hg a m c news hl hnews h1 hroom hfit
      refine ⟨_, _, hr, sat_row.2 ⟨hlen, .inr ⟨g, cap, _, rfl, hroom, hcm, ?_, ?_, hR.set (setRow_heap w g cur _ e _ hg) fun k _ hk => setRow_other w g k _ hk⟩⟩, ⟨rfl, rfl, rfl, by simp⟩⟩
      · simp only [List.size_toArray, List.length_append, List.length_take, List.length_drop, Array.length_toList]
        omega
      · rw [htake, ← hlen]
        exact List.take_left
    · have hown := H.owns
      have holds : ∀ j u, xs[j]? = some u → w.cell? ((⟨g, 0, none⟩ : Addr).add j) = some u := hown.cells (g := g) rfl
      have hr := run_append_grow (P := P) w t ty e i z ht hi hz ⟨g, 0, none⟩ n cap xs hx holds a m c news hl hnews (by omega) (by omega) (growslice_fits (by omega) hbytes)
      exact ⟨_, _, hr, grown cap hR.right, ((Io.refl w).drew).alloc _⟩

/-- .. where it stands in the code: behind the new elements' own block. -/
theorem wpList_append_sl {R : Asn} {w : World} {ops : Array Oper} {rest : List Oper} {o : Oper} {a : Act} {Q : Exit → Act → World → Prop} (hgd : o.guard = none) (s x : Operand) (t : TypeId)
    (ho : o.op = .call { callee := .builtin .append, args := #[s, x], argTypes := #[t, t] })
    (e : TypeId) {i : TypeInfo} {z : Value} {size bytes : Nat} (ht : P.underlying t = some (.slice e)) (hi : P.info? e = some i) (hz : i.zero = some z)
    (hsize : i.size = size) (hby : i.bytes = bytes) (hzs : z.cells.size = size)
    {v : Value} {n : Nat} {xs : List Value} (hs : a.eval s = v) (H : Sat (Row e size v n xs * R) w)
    (ad : Addr) (m c : Nat) (news : List Value) (hx : a.eval x = .slice (some ad) m c) (hl : news.length = m * size) (hnews : ∀ j u, news[j]? = some u → w.cell? (ad.add j) = some u) (h1 : ∀ u ∈ news, u.oneCell' = true)
    (h63 : n + m ≤ maxLen) (hbytes : (n + m) * bytes ≤ 140737488355328)
    (h : ∀ v' w', Sat (Row e size v' (n + m) (xs ++ news) * R) w' → Io w w' → wpList P ops Q rest (a.put o.dst v') w') : wpList P ops Q (o :: rest) a w :=
  wpList_plain hgd fun K hK => by
    obtain ⟨v', w', hr, h2, h3⟩ := run_append_sl (P := P) w t o.type e ht hi hz hsize hby hzs H ad m c news hl hnews h1 h63 hbytes
    unfold Oper.wp execOp
    simp only [ho, resolve, invoke, builtin, Sem.run_bind, Sem.run_pure, Result.andThen_ok, List.map_toArray, List.map_cons, List.map_nil, hs, hx, hr]
    exact hK _ _ (h v' w' h2 h3)

theorem row_shape {e : TypeId} {size : Nat} {v : Value} {n : Nat} {xs : List Value} {R : Asn} {w : World} (h : Sat (Row e size v n xs * R) w) (hn : 0 < n) : ∃ g c, v = .slice (some ⟨g, 0, none⟩) n c := by
  obtain ⟨_, ⟨_, h0, _⟩ | ⟨g, cap, cur, e1, _⟩⟩ := sat_row.1 h
  · omega
  · exact ⟨g, cap, e1⟩

theorem news_at (w : World) (n : Nat) (hn : n = w.heap.size) (cs : List Value) (t : TypeId) : ∀ j u, cs[j]? = some u → (w.alloc (.cells cs.toArray t)).cell? ((⟨n, 0, none⟩ : Addr).add j) = some u := by
  subst hn
  intro j u hj
  have e : (⟨w.heap.size, 0, none⟩ : Addr).add j = ⟨w.heap.size, j, none⟩ := by unfold Addr.add; split <;> simp_all
  rw [e, World.cell?_alloc_new]
  simpa using hj

/-- append of what has just been laid in a block of its own. -/
theorem wpList_append_new {R : Asn} {w : World} {ops : Array Oper} {rest : List Oper} {o : Oper} {a : Act} {Q : Exit → Act → World → Prop} (hgd : o.guard = none) (s x : Operand) (t : TypeId)
    (ho : o.op = .call { callee := .builtin .append, args := #[s, x], argTypes := #[t, t] })
    (e : TypeId) {i : TypeInfo} {z : Value} {size bytes : Nat} (ht : P.underlying t = some (.slice e)) (hi : P.info? e = some i) (hz : i.zero = some z)
    (hsize : i.size = size) (hby : i.bytes = bytes) (hzs : z.cells.size = size)
    {v : Value} {n : Nat} {xs : List Value} (hs : a.eval s = v) (H : Sat (Row e size v n xs * R) w)
    {b : Nat} (m c : Nat) (cs : List Value) (hx : a.eval x = .slice (some ⟨b, 0, none⟩) m c) (hb : b = w.heap.size) (hl : cs.length = m * size) (h1 : cs.all (·.oneCell') = true)
    (hbytes : n + m ≤ 1000000000) (hby2 : bytes ≤ 100000)
    (hm : 0 < m) (h : ∀ g c' w', Sat (Row e size (.slice (some ⟨g, 0, none⟩) (n + m) c') (n + m) (xs ++ cs) * R) w' → Io w w' → wpList P ops Q rest (a.put o.dst (.slice (some ⟨g, 0, none⟩) (n + m) c')) w') :
    wpList P ops Q (o :: rest) a (w.alloc (.cells cs.toArray e)) := by
  have hk : (n + m) * bytes ≤ 1000000000 * 100000 := Nat.mul_le_mul hbytes hby2
  exact wpList_append_sl hgd s x t ho e ht hi hz hsize hby hzs hs (H.alloc _) ⟨b, 0, none⟩ m c cs hx hl (news_at w b hb cs e) (fun u hu => List.all_eq_true.1 h1 u hu) (by unfold maxLen; omega) (by omega)
    fun v' w' h2 h3 => by
      obtain ⟨g, c', rfl⟩ := row_shape h2 (by omega)
      exact h g c' w' h2 (((Io.refl w).alloc _).trans h3)

/-- A region that draws its order, of which all operations ahead of a forced tail only read. -/
theorem region_tail {id : Nat} {Q : Exit → Act → World → Prop} {a : Act} {w : World} {l : List Oper} (n : Nat) (hm : P.follows .mixedOrders = true) (hB : Region.lexTailB .any l.toArray n = true)
    (h : wpStill P l.toArray w.drew (fun a' => wpList P l.toArray Q (l.drop n) a' w.drew) (l.take n) a) : (Code.region id l.toArray true).wp P Q a w :=
  wp_region_still_tail n hm hB h

/-- What stands under k. -/
def mget (k : Int) : List (Int × Value) → Option Value
  | [] => none
  | p :: m => if p.1 = k then some p.2 else mget k m

/-- v is put under k. -/
def mput (k : Int) (v : Value) : List (Int × Value) → List (Int × Value)
  | [] => [(k, v)]
  | p :: m => if p.1 = k then (k, v) :: m else p :: mput k v m

/-- An object is a map that reads as m. -/
def MapI (q : IntKind) (m : List (Int × Value)) (o : Obj) : Prop :=
  ∃ es clock, o = .map es clock ∧ es.toList.map (fun e => (e.key, e.val)) = m.map fun p => (Value.int q p.1, p.2)

theorem mget_mput_same (k : Int) (v : Value) : ∀ m, mget k (mput k v m) = some v
  | [] => by simp [mput, mget]
  | p :: m => by
    unfold mput
    split
    · simp [mget]
    · rename_i h; simp [mget, h, mget_mput_same k v m]

theorem mget_mput_other {k j : Int} (v : Value) (h : j ≠ k) : ∀ m, mget j (mput k v m) = mget j m
  | [] => by simp [mput, mget, Ne.symm h]
  | p :: m => by
    unfold mput
    split
    · rename_i e; subst e; simp [mget, Ne.symm h]
    · simp [mget, mget_mput_other v h m]

theorem mapI_new (q : IntKind) : MapI q [] (.map #[] 0) := ⟨#[], 0, rfl, rfl⟩

end
end Go.Proofs.YtojiffhknddleaaGreatDoor
