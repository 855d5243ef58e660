/-
  A small separation logic over the model's heap: who owns which block. No program in sight. It proves no statement by itself.
-/
import Derived.WalkKit
import Derived.WalkSpells
import Derived.WalkLawsBesides
import Derived.Deep.QuietTactic
import Derived.BigQuiet
namespace Go.Proofs.YtojiffhknddleaaGreatDoor
open Go.RowKit
set_option linter.unusedSimpArgs false
set_option linter.unusedVariables false

/-- A part of the heap. -/
abbrev Hl := Nat → Option Obj
/-- A saying on a part of the heap. -/
def Asn := Hl → Prop

/-- The block b holds o. -/
def pts (b : Nat) (o : Obj) : Asn := fun h => ∀ k, h k = if k = b then some o else none
/-- Nothing is owned. -/
def emp : Asn := fun h => ∀ k, h k = none
/-- Both, of parts that do not meet. -/
def star (A B : Asn) : Asn := fun h => ∃ h1 h2, A h1 ∧ B h2 ∧ ∀ k, (h1 k = none ∧ h2 k = h k) ∨ (h2 k = none ∧ h1 k = h k)
instance : Mul Asn := ⟨star⟩
/-- Some x. -/
def ex {α : Type} (A : α → Asn) : Asn := fun h => ∃ x, A x h
/-- p, and A. -/
def on (p : Prop) (A : Asn) : Asn := fun h => p ∧ A h
/-- The world has A somewhere. -/
def Sat (A : Asn) (w : World) : Prop := ∃ h, A h ∧ ∀ k o, h k = some o → w.heap[k]? = some o

theorem star_comm (A B : Asn) : A * B = B * A := by
  funext h
  apply propext
  constructor
  · rintro ⟨h1, h2, a, b, c⟩; exact ⟨h2, h1, b, a, fun k => (c k).symm⟩
  · rintro ⟨h1, h2, a, b, c⟩; exact ⟨h2, h1, b, a, fun k => (c k).symm⟩

theorem star_assoc_le (A B C : Asn) (h : Hl) : (A * B * C) h → (A * (B * C)) h := by
  rintro ⟨h12, h3, ⟨h1, h2, a, b, c⟩, d, e⟩
  refine ⟨h1, fun k => (h2 k).or (h3 k), a, ⟨h2, h3, b, d, fun k => ?_⟩, fun k => ?_⟩
  · rcases c k with ⟨c1, c2⟩ | ⟨c1, c2⟩ <;> rcases e k with ⟨e1, e2⟩ | ⟨e1, e2⟩ <;> simp_all
  · rcases c k with ⟨c1, c2⟩ | ⟨c1, c2⟩ <;> rcases e k with ⟨e1, e2⟩ | ⟨e1, e2⟩ <;> simp_all

theorem star_assoc (A B C : Asn) : A * B * C = A * (B * C) := by
  funext h
  apply propext
  constructor
  · exact star_assoc_le A B C h
  · intro x
    have x2 : (C * B * A) h := by rw [star_comm (C * B) A, star_comm C B]; exact x
    have y := star_assoc_le C B A h x2
    rw [star_comm C (B * A), star_comm B A] at y
    exact y

instance : Std.Associative (α := Asn) (· * ·) := ⟨star_assoc⟩
instance : Std.Commutative (α := Asn) (· * ·) := ⟨star_comm⟩

theorem Sat.of_eq {A B : Asn} {w : World} (h : Sat A w) (e : A = B) : Sat B w := e ▸ h

theorem Sat.left {A B : Asn} {w : World} (h : Sat (A * B) w) : Sat A w := by
  obtain ⟨h0, ⟨h1, h2, a, b, c⟩, f⟩ := h
  refine ⟨h1, a, fun k o hk => f k o ?_⟩
  rcases c k with ⟨c1, c2⟩ | ⟨c1, c2⟩
  · rw [c1] at hk; cases hk
  · rw [← c2]; exact hk

theorem Sat.right {A B : Asn} {w : World} (h : Sat (A * B) w) : Sat B w := by rw [star_comm] at h; exact h.left

theorem Sat.at {b : Nat} {o : Obj} {w : World} (h : Sat (pts b o) w) : w.heap[b]? = some o := by
  obtain ⟨h0, a, f⟩ := h
  exact f b o (by rw [a b, if_pos rfl])

theorem Sat.lt {b : Nat} {o : Obj} {w : World} (h : Sat (pts b o) w) : b < w.heap.size := (Array.getElem?_eq_some_iff.1 h.at).1

theorem Sat.ne {a b : Nat} {x y : Obj} {w : World} (h : Sat (pts a x * pts b y) w) : a ≠ b := by
  obtain ⟨h0, ⟨h1, h2, p, q, c⟩, f⟩ := h
  rintro rfl
  have e1 := p a
  have e2 := q a
  rw [if_pos rfl] at e1 e2
  rcases c a with ⟨c1, c2⟩ | ⟨c1, c2⟩ <;> simp_all

/-- One block is written; the rest that is told of stays. -/
theorem Sat.set {b : Nat} {o o' : Obj} {R : Asn} {w w' : World} (h : Sat (pts b o * R) w) (hb : w'.heap[b]? = some o')
    (hk : ∀ k, k < w.heap.size → k ≠ b → w'.heap[k]? = w.heap[k]?) : Sat (pts b o' * R) w' := by
  obtain ⟨h0, ⟨h1, h2, p, q, c⟩, f⟩ := h
  refine ⟨fun k => if k = b then some o' else h2 k, ⟨fun k => if k = b then some o' else none, h2, fun k => rfl, q, fun k => ?_⟩, fun k u hu => ?_⟩
  · by_cases e : k = b
    · subst e
      have e1 := p k
      rw [if_pos rfl] at e1
      rcases c k with ⟨c1, c2⟩ | ⟨c1, c2⟩
      · rw [c1] at e1; cases e1
      · right; simp [c1]
    · left; simp [e]
  · by_cases e : k = b
    · subst e; simp at hu; subst hu; exact hb
    · simp only [e, if_false] at hu
      have hw : w.heap[k]? = some u := by
        apply f
        rcases c k with ⟨c1, c2⟩ | ⟨c1, c2⟩
        · rw [← c2]; exact hu
        · rw [c1] at hu; cases hu
      rw [hk k (Array.getElem?_eq_some_iff.1 hw).1 e]
      exact hw

/-- What is told of stays where no old block is turned. -/
theorem Sat.keep {A : Asn} {w w' : World} (h : Sat A w) (hk : ∀ k, k < w.heap.size → w'.heap[k]? = w.heap[k]?) : Sat A w' := by
  obtain ⟨h0, a, f⟩ := h
  refine ⟨h0, a, fun k o hko => ?_⟩
  have hw := f k o hko
  rw [hk k (Array.getElem?_eq_some_iff.1 hw).1]
  exact hw

/-- A block that was not there. -/
theorem Sat.fresh {A : Asn} {w w' : World} {n : Nat} {o : Obj} (h : Sat A w) (hn : w.heap.size ≤ n) (hb : w'.heap[n]? = some o)
    (hk : ∀ k, k < w.heap.size → w'.heap[k]? = w.heap[k]?) : Sat (pts n o * A) w' := by
  obtain ⟨h0, a, f⟩ := h
  refine ⟨fun k => if k = n then some o else h0 k, ⟨fun k => if k = n then some o else none, h0, fun k => rfl, a, fun k => ?_⟩, fun k u hu => ?_⟩
  · by_cases e : k = n
    · subst e
      right
      refine ⟨?_, by simp⟩
      cases hx : h0 k with
      | none => rfl
      | some u => have := (Array.getElem?_eq_some_iff.1 (f k u hx)).1; omega
    · left; simp [e]
  · by_cases e : k = n
    · subst e; simp at hu; subst hu; exact hb
    · simp only [e, if_false] at hu
      have hw := f k u hu
      rw [hk k (Array.getElem?_eq_some_iff.1 hw).1]
      exact hw

theorem Sat.new {A : Asn} {w : World} (h : Sat A w) (o : Obj) : Sat (pts w.heap.size o * A) (w.alloc o) :=
  h.fresh (Nat.le_refl _) (heap_alloc_new w o) fun k hk => Below.heap_alloc w o k hk

theorem Sat.alloc {A : Asn} {w : World} (h : Sat A w) (o : Obj) : Sat A (w.alloc o) := (h.new o).right

theorem Sat.drew {A : Asn} {w : World} (h : Sat A w) : Sat A w.drew := h.keep fun _ _ => rfl

theorem Sat.drewN {A : Asn} {w : World} (h : Sat A w) (n : Nat) : Sat A (w.drewN n) := h.keep fun _ _ => rfl

/-- A cell of a block that is owned is written. -/
theorem Sat.cell {b : Nat} {c : Array Value} {t : TypeId} {fr : Nat × Nat} {R : Asn} {w : World} (h : Sat (pts b (.cells c t fr) * R) w) (j : Nat) (v : Value) :
    Sat (pts b (.cells (c.setIfInBounds j v) t fr) * R) (w.setCell ⟨b, j, none⟩ v) := by
  refine h.set ?_ fun k _ hk => Below.heap_setCell w ⟨b, j, none⟩ v k hk
  have hb := h.left.at
  simp [World.setCell, Array.getElem?_modify, hb]

theorem Sat.read {b : Nat} {c : Array Value} {t : TypeId} {fr : Nat × Nat} {w : World} (h : w.heap[b]? = some (.cells c t fr)) (j : Nat) : w.cell? ⟨b, j, none⟩ = c[j]? := by
  simp [World.cell?, h]

theorem Sat.free {b : Nat} {c : Array Value} {t : TypeId} {w : World} (h : w.heap[b]? = some (.cells c t (0, 0))) (j : Nat) : w.frozen? ⟨b, j, none⟩ = false := by
  simp [World.frozen?, h]

theorem sat_ex {α : Type} {A : α → Asn} {R : Asn} {w : World} : Sat (ex A * R) w ↔ ∃ x, Sat (A x * R) w := by
  constructor
  · rintro ⟨h0, ⟨h1, h2, ⟨x, a⟩, b, c⟩, f⟩; exact ⟨x, h0, ⟨h1, h2, a, b, c⟩, f⟩
  · rintro ⟨x, h0, ⟨h1, h2, a, b, c⟩, f⟩; exact ⟨h0, ⟨h1, h2, ⟨x, a⟩, b, c⟩, f⟩

theorem sat_on {p : Prop} {A R : Asn} {w : World} : Sat (on p A * R) w ↔ p ∧ Sat (A * R) w := by
  constructor
  · rintro ⟨h0, ⟨h1, h2, ⟨x, a⟩, b, c⟩, f⟩; exact ⟨x, h0, ⟨h1, h2, a, b, c⟩, f⟩
  · rintro ⟨x, h0, ⟨h1, h2, a, b, c⟩, f⟩; exact ⟨h0, ⟨h1, h2, ⟨x, a⟩, b, c⟩, f⟩

theorem star_emp (A : Asn) : emp * A = A := by
  funext h
  apply propext
  constructor
  · rintro ⟨h1, h2, a, b, c⟩
    have : h2 = h := by
      funext k
      rcases c k with ⟨_, e⟩ | ⟨e1, e2⟩
      · exact e
      · rw [e1, ← e2, a k]
    rw [← this]; exact b
  · intro a
    exact ⟨fun _ => none, h, fun _ => rfl, a, fun k => .inl ⟨rfl, rfl⟩⟩

theorem emp_star (A : Asn) : A * emp = A := by rw [star_comm, star_emp]

/-- All that W has, and nothing else. -/
def whole (W : World) : Asn := fun h => ∀ k, h k = W.heap[k]?

theorem Sat.all (W : World) : Sat (whole W) W := ⟨fun k => W.heap[k]?, fun _ => rfl, fun _ _ h => h⟩

theorem Sat.was {W w : World} (h : Sat (whole W) w) : ∀ k, k < W.heap.size → w.heap[k]? = W.heap[k]? := by
  obtain ⟨h0, a, f⟩ := h
  intro k hk
  have e := a k
  rw [Array.getElem?_eq_getElem hk] at e ⊢
  exact f k _ e

/-- The streams, and the tape, are as they were; blocks do not go. -/
structure Io (w w' : World) : Prop where
  os : w'.os = w.os
  tape : w'.tape = w.tape
  output : w'.output = w.output
  size : w.heap.size ≤ w'.heap.size

theorem Io.refl (w : World) : Io w w := ⟨rfl, rfl, rfl, Nat.le_refl _⟩
theorem Io.trans {a b c : World} (h : Io a b) (k : Io b c) : Io a c := ⟨k.os.trans h.os, k.tape.trans h.tape, k.output.trans h.output, Nat.le_trans h.size k.size⟩
theorem Io.alloc {a w : World} (h : Io a w) (o : Obj) : Io a (w.alloc o) := h.trans ⟨rfl, rfl, rfl, by simp⟩
theorem Io.drew {a w : World} (h : Io a w) : Io a w.drew := h.trans ⟨rfl, rfl, rfl, Nat.le_refl _⟩
theorem Io.drewN {a w : World} (h : Io a w) (n : Nat) : Io a (w.drewN n) := h.trans ⟨rfl, rfl, rfl, Nat.le_refl _⟩
theorem Io.setCell {a w : World} (h : Io a w) (p : Addr) (v : Value) : Io a (w.setCell p v) := h.trans ⟨rfl, rfl, rfl, by simp [World.setCell]⟩
theorem Io.grown {a w w' : World} {r : Option Nat} (h : Io a w) (g : w.grownBy w' r) : Io a w' := h.trans ⟨g.os, g.tape, g.output, g.size⟩

theorem Io.below {W w : World} (h : Io W w) (k : Sat (whole W) w) : Below W.heap.size W w :=
  ⟨h.os, h.tape, h.output, h.size, k.was⟩

/-- A SLICE VALUE v OF n ELEMENTS (of type e, 'size' cells each) OWNS THE CELLS xs. -/
def Row (e : TypeId) (size : Nat) (v : Value) (n : Nat) (xs : List Value) : Asn := fun h =>
  xs.length = n * size ∧ ((v = .slice none 0 0 ∧ n = 0 ∧ emp h) ∨
    ∃ g cap cur, v = .slice (some ⟨g, 0, none⟩) n cap ∧ n ≤ cap ∧ cap ≤ maxLen ∧ cur.size = cap * size ∧ cur.toList.take (n * size) = xs ∧ pts g (.cells cur e (0, 0)) h)

theorem row_nil (e : TypeId) (size : Nat) (R : Asn) (w : World) (h : Sat R w) : Sat (Row e size (.slice none 0 0) 0 [] * R) w := by
  have h2 : Sat (emp * R) w := by rw [star_emp]; exact h
  obtain ⟨h0, ⟨h1, h2, a, b, c⟩, f⟩ := h2
  exact ⟨h0, ⟨h1, h2, ⟨by simp, .inl ⟨rfl, rfl, a⟩⟩, b, c⟩, f⟩

theorem sat_row {e : TypeId} {size : Nat} {v : Value} {n : Nat} {xs : List Value} {R : Asn} {w : World} :
    Sat (Row e size v n xs * R) w ↔ xs.length = n * size ∧ ((v = .slice none 0 0 ∧ n = 0 ∧ Sat R w) ∨
      ∃ g cap cur, v = .slice (some ⟨g, 0, none⟩) n cap ∧ n ≤ cap ∧ cap ≤ maxLen ∧ cur.size = cap * size ∧ cur.toList.take (n * size) = xs ∧ Sat (pts g (.cells cur e (0, 0)) * R) w) := by
  constructor
  · rintro ⟨h0, ⟨h1, h2, ⟨l, a⟩, b, c⟩, f⟩
    refine ⟨l, ?_⟩
    rcases a with ⟨rfl, rfl, a⟩ | ⟨g, cap, cur, e1, e2, e3, e4, e5, a⟩
    · refine .inl ⟨rfl, rfl, ?_⟩
      have : Sat (emp * R) w := ⟨h0, ⟨h1, h2, a, b, c⟩, f⟩
      exact this.right
    · exact .inr ⟨g, cap, cur, e1, e2, e3, e4, e5, h0, ⟨h1, h2, a, b, c⟩, f⟩
  · rintro ⟨l, h | ⟨g, cap, cur, e1, e2, e3, e4, e5, h0, ⟨h1, h2, a, b, c⟩, f⟩⟩
    · obtain ⟨rfl, rfl, h⟩ := h
      have hx : xs = [] := List.eq_nil_of_length_eq_zero (by simpa using l)
      subst hx
      exact row_nil e size R w h
    · exact ⟨h0, ⟨h1, h2, ⟨l, .inr ⟨g, cap, cur, e1, e2, e3, e4, e5, a⟩⟩, b, c⟩, f⟩

theorem Sat.owns {e : TypeId} {size : Nat} {v : Value} {n : Nat} {xs : List Value} {R : Asn} {w : World} (h : Sat (Row e size v n xs * R) w) : w.ownsRow 0 e size v n xs := by
  obtain ⟨l, h⟩ := sat_row.1 h
  refine ⟨l, ?_⟩
  rcases h with ⟨e1, e2, _⟩ | ⟨g, cap, cur, e1, e2, e3, e4, e5, h⟩
  · exact .inl ⟨e1, e2⟩
  · exact .inr ⟨g, cap, cur, e1, Nat.zero_le _, h.left.at, e2, e3, e4, e5⟩

end Go.Proofs.YtojiffhknddleaaGreatDoor
