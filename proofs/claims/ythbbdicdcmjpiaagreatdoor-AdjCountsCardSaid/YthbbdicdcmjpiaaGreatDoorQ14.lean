/-
  Lists of pairs as sets, in plain words: sorted, each once; taken from one another, told apart, changed. No program in sight. It proves no statement by itself.
-/
import Derived.Test.YthbbdicdcmjpiaaGreatDoorQ01
namespace Go.Proofs.YthbbdicdcmjpiaaGreatDoor
set_option linter.unusedSimpArgs false
set_option linter.unusedVariables false

abbrev Pr := Int × Int
namespace Eg
/-- In order. -/
def less (a b : Pr) : Bool := decide (a.1 < b.1) || (a.1 == b.1 && decide (a.2 < b.2))
theorem less_iff {a b : Pr} : less a b = true ↔ a.1 < b.1 ∨ (a.1 = b.1 ∧ a.2 < b.2) := by simp [less]
theorem less_irrefl (a : Pr) : less a a = false := by
  rw [Bool.eq_false_iff]; intro h; rw [less_iff] at h; omega
theorem less_trans {a b c : Pr} (h : less a b = true) (k : less b c = true) : less a c = true := by
  rw [less_iff] at *; omega
theorem less_asym {a b : Pr} (h : less a b = true) : less b a = false := by
  rw [Bool.eq_false_iff]; intro k; rw [less_iff] at *; omega
theorem less_total {a b : Pr} (h : less a b = false) (k : less b a = false) : a = b := by
  rw [Bool.eq_false_iff, ne_eq, less_iff] at h k
  exact Prod.ext (by omega) (by omega)
/-- Rising, each once. -/
def Srt (l : List Pr) : Prop := l.Pairwise (fun a b => less a b = true)
theorem Srt.cons {x : Pr} {l : List Pr} : Srt (x :: l) ↔ (∀ y ∈ l, less x y = true) ∧ Srt l := List.pairwise_cons
theorem Srt.nil : Srt [] := List.Pairwise.nil
theorem Srt.filter {l : List Pr} (h : Srt l) (p : Pr → Bool) : Srt (l.filter p) := List.Pairwise.filter p h
/-- Two such lists of the same pairs are one. -/
theorem srt_ext : ∀ {l m : List Pr}, Srt l → Srt m → (∀ x, x ∈ l ↔ x ∈ m) → l = m
  | [], [], _, _, _ => rfl
  | [], y :: m, _, _, h => absurd ((h y).2 (List.mem_cons_self ..)) (by simp)
  | x :: l, [], _, _, h => absurd ((h x).1 (List.mem_cons_self ..)) (by simp)
  | x :: l, y :: m, hl, hm, h => by
    obtain ⟨l1, l2⟩ := Srt.cons.1 hl
    obtain ⟨m1, m2⟩ := Srt.cons.1 hm
    have e : x = y := by
      rcases List.mem_cons.1 ((h x).1 (List.mem_cons_self ..)) with e | hx
      · exact e
      · rcases List.mem_cons.1 ((h y).2 (List.mem_cons_self ..)) with e | hy
        · exact e.symm
        · have := less_asym (m1 x hx)
          rw [l1 y hy] at this
          cases this
    subst e
    rw [srt_ext l2 m2 fun z => ?_]
    constructor
    · intro hz
      rcases List.mem_cons.1 ((h z).1 (List.mem_cons_of_mem _ hz)) with e | k
      · subst e; have := l1 z hz; rw [less_irrefl] at this; cases this
      · exact k
    · intro hz
      rcases List.mem_cons.1 ((h z).2 (List.mem_cons_of_mem _ hz)) with e | k
      · subst e; have := m1 z hz; rw [less_irrefl] at this; cases this
      · exact k

/-! ### the document's -/
def ins (p : Pr) : List Pr → List Pr
  | [] => [p]
  | q :: l => if less p q then p :: q :: l else q :: ins p l
def put (l : List Pr) (p : Pr) : List Pr := if p ∈ l then l else ins p l
def sort (l : List Pr) : List Pr := l.foldl put []
def without (l : List Pr) (p : Pr) : List Pr := l.filter fun x => decide (x ≠ p)
def minus (a b : List Pr) : List Pr := (sort a).filter fun x => !decide (x ∈ b)
def diff (a b : List Pr) : List (Pr × Bool) := (sort (minus a b ++ minus b a)).map fun x => (x, decide (x ∈ b))
def one (s : List Pr) (x : Pr × Bool) : List Pr := if x.2 then put s x.1 else without s x.1
def apply (l : List Pr) (c : List (Pr × Bool)) : List Pr := c.foldl one (sort l)

theorem mem_ins (p x : Pr) : ∀ l, x ∈ ins p l ↔ x = p ∨ x ∈ l
  | [] => by simp [ins]
  | q :: l => by
    unfold ins
    split
    · simp
    · rw [List.mem_cons, mem_ins p x l, List.mem_cons]
      constructor
      · rintro (h | h | h)
        · exact .inr (.inl h)
        · exact .inl h
        · exact .inr (.inr h)
      · rintro (h | h | h)
        · exact .inr (.inl h)
        · exact .inl h
        · exact .inr (.inr h)
theorem srt_ins (p : Pr) : ∀ l, Srt l → p ∉ l → Srt (ins p l)
  | [], _, _ => Srt.cons.2 ⟨by simp, Srt.nil⟩
  | q :: l, h, hp => by
    obtain ⟨h1, h2⟩ := Srt.cons.1 h
    unfold ins
    split
    · rename_i hl
      refine Srt.cons.2 ⟨fun y hy => ?_, h⟩
      rcases List.mem_cons.1 hy with rfl | hy
      · exact hl
      · exact less_trans hl (h1 y hy)
    · rename_i hl
      have hpl : p ∉ l := fun k => hp (List.mem_cons_of_mem _ k)
      have hpq : p ≠ q := fun e => hp (e ▸ List.mem_cons_self ..)
      refine Srt.cons.2 ⟨fun y hy => ?_, srt_ins p l h2 hpl⟩
      rcases (mem_ins p y l).1 hy with rfl | hy
      · cases k : less q y with
        | true => rfl
        | false => exact absurd (less_total (by simpa using hl) k) hpq
      · exact h1 y hy
theorem mem_put (l : List Pr) (p x : Pr) : x ∈ put l p ↔ x = p ∨ x ∈ l := by
  unfold put
  split
  · rename_i h
    constructor
    · exact .inr
    · rintro (rfl | k)
      · exact h
      · exact k
  · exact mem_ins p x l
theorem srt_put {l : List Pr} (h : Srt l) (p : Pr) : Srt (put l p) := by
  unfold put
  split
  · exact h
  · exact srt_ins p l h (by assumption)
theorem mem_without (l : List Pr) (p x : Pr) : x ∈ without l p ↔ x ∈ l ∧ x ≠ p := by simp [without]
theorem srt_without {l : List Pr} (h : Srt l) (p : Pr) : Srt (without l p) := h.filter _
theorem sort_key : ∀ (l s : List Pr), Srt s → Srt (l.foldl put s) ∧ ∀ x, x ∈ l.foldl put s ↔ x ∈ l ∨ x ∈ s
  | [], s, h => ⟨h, fun x => by simp⟩
  | p :: l, s, h => by
    obtain ⟨h1, h2⟩ := sort_key l (put s p) (srt_put h p)
    refine ⟨h1, fun x => ?_⟩
    rw [List.foldl_cons, h2, mem_put, List.mem_cons]
    constructor
    · rintro (k | k | k)
      · exact .inl (.inr k)
      · exact .inl (.inl k)
      · exact .inr k
    · rintro ((k | k) | k)
      · exact .inr (.inl k)
      · exact .inl k
      · exact .inr (.inr k)
theorem srt_sort (l : List Pr) : Srt (sort l) := (sort_key l [] Srt.nil).1
theorem mem_sort (l : List Pr) (x : Pr) : x ∈ sort l ↔ x ∈ l := by rw [sort, (sort_key l [] Srt.nil).2]; simp
/-- What is rising, and has l's pairs, is l sorted. -/
theorem sort_of {l m : List Pr} (h : Srt m) (k : ∀ x, x ∈ m ↔ x ∈ l) : m = sort l := srt_ext h (srt_sort l) fun x => by rw [k, mem_sort]
theorem sort_same {l : List Pr} (h : Srt l) : sort l = l := (sort_of h fun _ => Iff.rfl).symm
theorem mem_minus (a b : List Pr) (x : Pr) : x ∈ minus a b ↔ x ∈ a ∧ x ∉ b := by simp [minus, mem_sort]
theorem srt_minus (a b : List Pr) : Srt (minus a b) := (srt_sort a).filter _
theorem apply_key : ∀ (c : List (Pr × Bool)) (s : List Pr), Srt s → Srt (c.foldl one s)
  | [], s, h => h
  | x :: c, s, h => by
    refine apply_key c (one s x) ?_
    unfold one
    split
    · exact srt_put h _
    · exact srt_without h _
theorem srt_apply (l : List Pr) (c : List (Pr × Bool)) : Srt (apply l c) := apply_key c _ (srt_sort l)
/-- Of changes that tell of each pair at most once: who is there behind them. -/
theorem apply_mem (b : List Pr) : ∀ (m : List Pr) (s : List Pr), Srt m → ∀ x, x ∈ (m.map fun y => (y, decide (y ∈ b))).foldl one s ↔ if x ∈ m then x ∈ b else x ∈ s
  | [], s, _, x => by simp
  | y :: m, s, h, x => by
    obtain ⟨h1, h2⟩ := Srt.cons.1 h
    rw [List.map_cons, List.foldl_cons, apply_mem b m _ h2 x]
    by_cases e : x = y
    · subst e
      have hx : x ∉ m := fun k => by have := h1 x k; rw [less_irrefl] at this; cases this
      rw [if_neg hx, if_pos (List.mem_cons_self ..)]
      unfold one
      by_cases hb : x ∈ b
      · simp [hb, mem_put]
      · simp [hb, mem_without]
    · have hm : x ∈ y :: m ↔ x ∈ m := by simp [e]
      by_cases k : x ∈ m
      · rw [if_pos k, if_pos (hm.2 k)]
      · rw [if_neg k, if_neg (fun h => k (hm.1 h))]
        unfold one
        split
        · rw [mem_put]; simp [e]
        · rw [mem_without]; simp [e]
theorem diff_there (a b : List Pr) : apply a (diff a b) = sort b := by
  refine sort_of (srt_apply _ _) fun x => ?_
  unfold apply diff
  rw [apply_mem b _ _ (srt_sort _) x]
  simp only [mem_sort, List.mem_append, mem_minus]
  by_cases ha : x ∈ a <;> by_cases hb : x ∈ b <;> simp [ha, hb]

/-! ### what the program does -/
/-- Neighbours that are the same: once. -/
def uniq : List Pr → List Pr
  | [] => []
  | x :: l => match uniq l with
    | [] => [x]
    | y :: m => if x = y then y :: m else x :: y :: m
def Weak (l : List Pr) : Prop := l.Pairwise (fun a b => less b a = false)
theorem mem_uniq (x : Pr) : ∀ l, x ∈ uniq l ↔ x ∈ l
  | [] => by simp [uniq]
  | y :: l => by
    have ih := mem_uniq x l
    unfold uniq
    split
    · rename_i h
      rw [h] at ih
      simp at ih
      simp [ih]
    · rename_i z m h
      rw [h] at ih
      split
      · rename_i e
        subst e
        rw [ih, List.mem_cons]
        constructor
        · exact .inr
        · rintro (rfl | k)
          · exact ih.1 (List.mem_cons_self ..)
          · exact k
      · rw [List.mem_cons, ih, List.mem_cons]
theorem srt_uniq : ∀ l, Weak l → Srt (uniq l)
  | [], _ => Srt.nil
  | x :: l, h => by
    obtain ⟨h1, h2⟩ := List.pairwise_cons.1 h
    have ih := srt_uniq l h2
    have hm := fun z => mem_uniq z l
    unfold uniq
    split
    · exact Srt.cons.2 ⟨by simp, Srt.nil⟩
    · rename_i y m e
      rw [e] at ih hm
      split
      · exact ih
      · rename_i hxy
        obtain ⟨i1, i2⟩ := Srt.cons.1 ih
        refine Srt.cons.2 ⟨fun z hz => ?_, ih⟩
        have hxy' : less x y = true := by
          cases k : less x y with
          | true => rfl
          | false => exact absurd (less_total k (h1 y ((hm y).1 (List.mem_cons_self ..)))) hxy
        rcases List.mem_cons.1 hz with rfl | hz
        · exact hxy'
        · exact less_trans hxy' (i1 z hz)
/-- Two rising lists gone through: each pair once, and in which it is. -/
def mrg : List Pr → List Pr → List (Pr × Bool × Bool)
  | [], [] => []
  | [], y :: b => (y, false, true) :: mrg [] b
  | x :: a, [] => (x, true, false) :: mrg a []
  | x :: a, y :: b => if less x y then (x, true, false) :: mrg a (y :: b) else if less y x then (y, false, true) :: mrg (x :: a) b else (x, true, true) :: mrg a b
termination_by a b => a.length + b.length
theorem mrg_key (a b : List Pr) : Srt a → Srt b → Srt ((mrg a b).map (·.1)) ∧ ∀ x o t, (x, o, t) ∈ mrg a b ↔ (x ∈ a ∨ x ∈ b) ∧ o = decide (x ∈ a) ∧ t = decide (x ∈ b) := by
  fun_induction mrg a b with
  | case1 => intro _ _; exact ⟨Srt.nil, by simp⟩
  | case2 y b ih =>
    intro ha hb
    obtain ⟨b1, b2⟩ := Srt.cons.1 hb
    obtain ⟨i1, i2⟩ := ih ha b2
    refine ⟨Srt.cons.2 ⟨fun z hz => ?_, i1⟩, fun x o t => ?_⟩
    · obtain ⟨⟨z', o, t⟩, hq, rfl⟩ := List.mem_map.1 hz
      obtain ⟨k, _⟩ := (i2 z' o t).1 hq
      simp at k
      exact b1 _ k
    · rw [List.mem_cons, i2]
      by_cases e : x = y
      · subst e
        have : x ∉ b := fun k => by have := b1 x k; rw [less_irrefl] at this; cases this
        simp [this]
      · simp [e]
  | case3 x a ih =>
    intro ha hb
    obtain ⟨a1, a2⟩ := Srt.cons.1 ha
    obtain ⟨i1, i2⟩ := ih a2 hb
    refine ⟨Srt.cons.2 ⟨fun z hz => ?_, i1⟩, fun y o t => ?_⟩
    · obtain ⟨⟨z', o, t⟩, hq, rfl⟩ := List.mem_map.1 hz
      obtain ⟨k, _⟩ := (i2 z' o t).1 hq
      simp at k
      exact a1 _ k
    · rw [List.mem_cons, i2]
      by_cases e : y = x
      · subst e
        have : y ∉ a := fun k => by have := a1 y k; rw [less_irrefl] at this; cases this
        simp [this]
      · simp [e]
  | case4 x a y b h ih =>
    intro ha hb
    obtain ⟨a1, a2⟩ := Srt.cons.1 ha
    obtain ⟨b1, b2⟩ := Srt.cons.1 hb
    obtain ⟨i1, i2⟩ := ih a2 hb
    have hx : x ∉ y :: b := by
      intro k
      rcases List.mem_cons.1 k with rfl | k
      · rw [less_irrefl] at h; cases h
      · have := less_trans h (b1 x k); rw [less_irrefl] at this; cases this
    have hxa : x ∉ a := fun k => by have := a1 x k; rw [less_irrefl] at this; cases this
    refine ⟨Srt.cons.2 ⟨fun z hz => ?_, i1⟩, fun z o t => ?_⟩
    · obtain ⟨⟨z', o, t⟩, hq, rfl⟩ := List.mem_map.1 hz
      obtain ⟨k, _⟩ := (i2 z' o t).1 hq
      rcases k with k | k
      · exact a1 _ k
      · rcases List.mem_cons.1 k with e | k
        · exact e ▸ h
        · exact less_trans h (b1 _ k)
    · rw [List.mem_cons, i2]
      by_cases e : z = x
      · subst e
        simp [hx, hxa]
      · simp [e]
  | case5 x a y b h h' ih =>
    intro ha hb
    obtain ⟨a1, a2⟩ := Srt.cons.1 ha
    obtain ⟨b1, b2⟩ := Srt.cons.1 hb
    obtain ⟨i1, i2⟩ := ih ha b2
    have hy : y ∉ x :: a := by
      intro k
      rcases List.mem_cons.1 k with rfl | k
      · rw [less_irrefl] at h'; cases h'
      · have := less_trans h' (a1 y k); rw [less_irrefl] at this; cases this
    have hyb : y ∉ b := fun k => by have := b1 y k; rw [less_irrefl] at this; cases this
    refine ⟨Srt.cons.2 ⟨fun z hz => ?_, i1⟩, fun z o t => ?_⟩
    · obtain ⟨⟨z', o, t⟩, hq, rfl⟩ := List.mem_map.1 hz
      obtain ⟨k, _⟩ := (i2 z' o t).1 hq
      rcases k with k | k
      · rcases List.mem_cons.1 k with e | k
        · exact e ▸ h'
        · exact less_trans h' (a1 _ k)
      · exact b1 _ k
    · rw [List.mem_cons, i2]
      by_cases e : z = y
      · subst e
        simp [hy, hyb]
      · simp [e]
  | case6 x a y b h h' ih =>
    intro ha hb
    obtain ⟨a1, a2⟩ := Srt.cons.1 ha
    obtain ⟨b1, b2⟩ := Srt.cons.1 hb
    obtain ⟨i1, i2⟩ := ih a2 b2
    obtain rfl : x = y := less_total (by simpa using h) (by simpa using h')
    have hxa : x ∉ a := fun k => by have := a1 x k; rw [less_irrefl] at this; cases this
    have hxb : x ∉ b := fun k => by have := b1 x k; rw [less_irrefl] at this; cases this
    refine ⟨Srt.cons.2 ⟨fun z hz => ?_, i1⟩, fun z o t => ?_⟩
    · obtain ⟨⟨z', o, t⟩, hq, rfl⟩ := List.mem_map.1 hz
      obtain ⟨k, _⟩ := (i2 z' o t).1 hq
      rcases k with k | k
      · exact a1 _ k
      · exact b1 _ k
    · rw [List.mem_cons, i2]
      by_cases e : z = x
      · subst e
        simp [hxa, hxb]
      · simp [e]
/-- What Minus gathers. -/
def mMinus (m : List (Pr × Bool × Bool)) : List Pr := (m.filter fun y => y.2.1 && !y.2.2).map (·.1)
def mDiff (m : List (Pr × Bool × Bool)) : List (Pr × Bool) := (m.filter fun y => y.2.1 != y.2.2).map fun y => (y.1, y.2.2)
theorem srt_gather {m : List (Pr × Bool × Bool)} (h : Srt (m.map (·.1))) (p : Pr × Bool × Bool → Bool) : Srt ((m.filter p).map (·.1)) :=
  List.Pairwise.sublist (List.Sublist.map _ List.filter_sublist) h
theorem mMinus_eq (a b : List Pr) : mMinus (mrg (sort a) (sort b)) = minus a b := by
  obtain ⟨k1, k2⟩ := mrg_key (sort a) (sort b) (srt_sort a) (srt_sort b)
  refine srt_ext (srt_gather k1 _) (srt_minus a b) fun x => ?_
  rw [mem_minus]
  unfold mMinus
  constructor
  · intro h
    obtain ⟨⟨y, o, t⟩, hy, rfl⟩ := List.mem_map.1 h
    obtain ⟨h1, h2⟩ := List.mem_filter.1 hy
    obtain ⟨_, e1, e2⟩ := (k2 _ _ _).1 h1
    simp only [mem_sort] at e1 e2
    simp only [Bool.and_eq_true, Bool.not_eq_true'] at h2
    rw [e1, e2] at h2
    simpa using h2
  · rintro ⟨ha, hb⟩
    refine List.mem_map.2 ⟨(x, true, false), List.mem_filter.2 ⟨(k2 _ _ _).2 ⟨.inl ((mem_sort a x).2 ha), ?_, ?_⟩, rfl⟩, rfl⟩
    · simp [mem_sort, ha]
    · simp [mem_sort, hb]
theorem mDiff_eq (a b : List Pr) : mDiff (mrg (sort a) (sort b)) = diff a b := by
  obtain ⟨k1, k2⟩ := mrg_key (sort a) (sort b) (srt_sort a) (srt_sort b)
  have e0 : mDiff (mrg (sort a) (sort b)) = (((mrg (sort a) (sort b)).filter fun y => y.2.1 != y.2.2).map (·.1)).map fun x => (x, decide (x ∈ b)) := by
    unfold mDiff
    rw [List.map_map]
    apply List.map_congr_left
    rintro ⟨y, o, t⟩ hy
    obtain ⟨_, _, e2⟩ := (k2 _ _ _).1 (List.mem_filter.1 hy).1
    simp only [mem_sort] at e2
    show (y, t) = (y, decide (y ∈ b))
    rw [e2]
  rw [e0]
  unfold diff
  congr 1
  refine srt_ext (srt_gather k1 _) (srt_sort _) fun x => ?_
  rw [mem_sort, List.mem_append, mem_minus, mem_minus]
  constructor
  · intro h
    obtain ⟨⟨y, o, t⟩, hy, rfl⟩ := List.mem_map.1 h
    obtain ⟨h1, h2⟩ := List.mem_filter.1 hy
    obtain ⟨hu, e1, e2⟩ := (k2 _ _ _).1 h1
    simp only [mem_sort] at e1 e2
    simp only [mem_sort] at hu
    simp only at h2
    rw [e1, e2] at h2
    by_cases ha : y ∈ a <;> by_cases hb : y ∈ b <;> simp_all
  · rintro (⟨ha, hb⟩ | ⟨hb, ha⟩)
    · refine List.mem_map.2 ⟨(x, true, false), List.mem_filter.2 ⟨(k2 _ _ _).2 ⟨.inl ((mem_sort a x).2 ha), ?_, ?_⟩, rfl⟩, rfl⟩
      · simp [mem_sort, ha]
      · simp [mem_sort, hb]
    · refine List.mem_map.2 ⟨(x, false, true), List.mem_filter.2 ⟨(k2 _ _ _).2 ⟨.inr ((mem_sort b x).2 hb), ?_, ?_⟩, rfl⟩, rfl⟩
      · simp [mem_sort, ha]
      · simp [mem_sort, hb]
end Eg
end Go.Proofs.YthbbdicdcmjpiaaGreatDoor

/-
  Lists of pairs as sets: where a pair stands, or would stand; what goes in there, and what goes out. Plain. It proves no statement by itself.
-/
namespace Go.Proofs.YthbbdicdcmjpiaaGreatDoor
set_option linter.unusedSimpArgs false
set_option linter.unusedVariables false
namespace Eg
/-- How many stand ahead of p. -/
def cnt (p : Pr) : List Pr → Nat
  | [] => 0
  | q :: l => if less q p then cnt p l + 1 else 0
theorem cnt_le (p : Pr) : ∀ l, cnt p l ≤ l.length
  | [] => Nat.le_refl _
  | q :: l => by
    have := cnt_le p l
    unfold cnt
    split <;> simp <;> omega
theorem cnt_ahead (p : Pr) : ∀ (l : List Pr) (j : Nat) (h : j < cnt p l) (hl : j < l.length), less l[j] p = true
  | [], j, h, hl => absurd hl (by simp)
  | q :: l, j, h, hl => by
    unfold cnt at h
    split at h
    · rename_i hq
      cases j with
      | zero => exact hq
      | succ j => exact cnt_ahead p l j (by omega) (by simpa using hl)
    · omega
theorem cnt_behind (p : Pr) : ∀ (l : List Pr), Srt l → ∀ (j : Nat) (h : cnt p l ≤ j) (hl : j < l.length), less l[j] p = false
  | [], _, j, h, hl => absurd hl (by simp)
  | q :: l, hs, j, h, hl => by
    obtain ⟨h1, h2⟩ := Srt.cons.1 hs
    unfold cnt at h
    split at h
    · cases j with
      | zero => omega
      | succ j => exact cnt_behind p l h2 j (by omega) (by simpa using hl)
    · rename_i hq
      cases j with
      | zero => simpa using hq
      | succ j =>
        cases k : less (q :: l)[j + 1] p with
        | false => rfl
        | true =>
          have hm : l[j]'(by simpa using hl) ∈ l := List.getElem_mem _
          have := less_trans (h1 _ hm) k
          simp [this] at hq
/-- Such a place is the only one. -/
theorem cnt_unique {p : Pr} {l : List Pr} (hs : Srt l) {c : Nat} (hc : c ≤ l.length) (h1 : ∀ j (hl : j < l.length), j < c → less l[j] p = true) (h2 : ∀ j (hl : j < l.length), c ≤ j → less l[j] p = false) : c = cnt p l := by
  have a := cnt_ahead p l
  have b := cnt_behind p l hs
  have n := cnt_le p l
  rcases Nat.lt_trichotomy c (cnt p l) with k | k | k
  · have e1 := a c k (by omega)
    have e2 := h2 c (by omega) (Nat.le_refl _)
    rw [e1] at e2
    cases e2
  · exact k
  · have e1 := b (cnt p l) (Nat.le_refl _) (by omega)
    have e2 := h1 (cnt p l) (by omega) k
    rw [e1] at e2
    cases e2
theorem there_iff {p : Pr} {l : List Pr} (hs : Srt l) : p ∈ l ↔ ∃ h : cnt p l < l.length, l[cnt p l] = p := by
  constructor
  · intro hp
    obtain ⟨j, hj, e⟩ := List.getElem_of_mem hp
    have h1 : ¬ j < cnt p l := fun k => by have := cnt_ahead p l j k hj; rw [e, less_irrefl] at this; cases this
    have h2 : ¬ cnt p l < j := fun k => by
      have x := (List.pairwise_iff_getElem.1 hs) (cnt p l) j (by omega) hj k
      rw [e] at x
      rw [cnt_behind p l hs (cnt p l) (Nat.le_refl _) (by omega)] at x
      cases x
    have : j = cnt p l := by omega
    subst this
    exact ⟨hj, e⟩
  · rintro ⟨h, e⟩
    rw [← e]
    exact List.getElem_mem h
theorem ins_at (p : Pr) : ∀ l, Srt l → p ∉ l → ins p l = l.take (cnt p l) ++ p :: l.drop (cnt p l)
  | [], _, _ => rfl
  | q :: l, hs, hp => by
    obtain ⟨h1, h2⟩ := Srt.cons.1 hs
    have hpl : p ∉ l := fun k => hp (List.mem_cons_of_mem _ k)
    have hpq : p ≠ q := fun e => hp (e ▸ List.mem_cons_self ..)
    unfold ins cnt
    by_cases k : less p q = true
    · rw [if_pos k, if_neg (by rw [less_asym k]; simp)]
      rfl
    · have k2 : less q p = true := by
        cases e : less q p with
        | true => rfl
        | false => exact absurd (less_total (by simpa using k) e) hpq
      rw [if_neg k, if_pos k2, ins_at p l h2 hpl]
      rfl
theorem without_at (p : Pr) : ∀ l, Srt l → p ∈ l → without l p = l.take (cnt p l) ++ l.drop (cnt p l + 1)
  | [], _, h => absurd h (by simp)
  | q :: l, hs, hp => by
    obtain ⟨h1, h2⟩ := Srt.cons.1 hs
    unfold cnt
    by_cases e : q = p
    · subst e
      rw [if_neg (by rw [less_irrefl]; simp)]
      have hn : q ∉ l := fun k => by have := h1 q k; rw [less_irrefl] at this; cases this
      show (q :: l).filter _ = _
      rw [List.filter_cons_of_neg (by simp)]
      simp only [List.take_zero, List.nil_append, Nat.zero_add, List.drop_succ_cons, List.drop_zero]
      rw [List.filter_eq_self]
      intro x hx
      simp
      rintro rfl
      exact hn hx
    · have hp' : p ∈ l := by
        rcases List.mem_cons.1 hp with k | k
        · exact absurd k.symm e
        · exact k
      rw [if_pos (h1 p hp')]
      show (q :: l).filter _ = _
      rw [List.filter_cons_of_pos (by simpa using e)]
      have := without_at p l h2 hp'
      unfold without at this
      rw [this]
      rfl
theorem put_at {p : Pr} {l : List Pr} (hs : Srt l) (hp : p ∉ l) : put l p = l.take (cnt p l) ++ p :: l.drop (cnt p l) := by
  unfold put
  rw [if_neg hp, ins_at p l hs hp]
theorem put_same {p : Pr} {l : List Pr} (hp : p ∈ l) : put l p = l := by unfold put; rw [if_pos hp]
theorem without_same {p : Pr} {l : List Pr} (hp : p ∉ l) : without l p = l := by
  unfold without
  rw [List.filter_eq_self]
  intro x hx
  simp
  rintro rfl
  exact hp hx
theorem minus_len (a b : List Pr) : (diff a b).length = (minus a b).length + (minus b a).length := by
  unfold diff
  rw [List.length_map]
  have nd : ∀ {l : List Pr}, Srt l → l.Nodup := fun {l} h => List.Pairwise.imp (fun {x y} k e => by subst e; rw [less_irrefl] at k; cases k) h
  have p : (sort (minus a b ++ minus b a)).Perm (minus a b ++ minus b a) := by
    refine (List.perm_ext_iff_of_nodup (nd (srt_sort _)) ?_).2 fun x => mem_sort _ x
    rw [List.nodup_append]
    refine ⟨nd (srt_minus _ _), nd (srt_minus _ _), fun x hx y hy e => ?_⟩
    subst e
    exact ((mem_minus b a x).1 hy).2 ((mem_minus a b x).1 hx).1
  rw [p.length_eq, List.length_append]
theorem diff_none (a : List Pr) : diff a a = [] := by
  have : (minus a a) = [] := by
    apply List.eq_nil_iff_forall_not_mem.2
    intro x hx
    have := (mem_minus a a x).1 hx
    exact this.2 this.1
  unfold diff
  rw [this]
  rfl
/-- Two steps. -/
theorem diff_steps (a b c : List Pr) : apply a (diff a b ++ diff b c) = sort c := by
  have e : apply a (diff a b ++ diff b c) = (diff b c).foldl one (apply a (diff a b)) := by unfold apply; rw [List.foldl_append]
  rw [e, diff_there]
  exact diff_there b c
theorem sort_both {a b : List Pr} (h : ∀ x, x ∈ a ↔ x ∈ b) : sort a = sort b := sort_of (srt_sort a) fun x => by rw [mem_sort, h]
end Eg
end Go.Proofs.YthbbdicdcmjpiaaGreatDoor

/-
  Graphs: who is joined with whom: the walk's answer and the document's one. No program in sight. It proves no statement by itself.
-/
namespace Go.Proofs.YthbbdicdcmjpiaaGreatDoor.Gr
set_option linter.unusedSimpArgs false
set_option linter.unusedVariables false
abbrev Pr := Int × Int

/-- Who is beside x, in the order of the edges. -/
def adj1 (x : Int) (p : Pr) : List Int := (if p.1 = x then [p.2] else []) ++ (if p.2 = x then [p.1] else [])
def adj (l : List Pr) (x : Int) : List Int := l.flatMap (adj1 x)
theorem mem_adj {l : List Pr} {x y : Int} : y ∈ adj l x ↔ (x, y) ∈ l ∨ (y, x) ∈ l := by
  unfold adj adj1
  rw [List.mem_flatMap]
  constructor
  · rintro ⟨⟨a, b⟩, hp, h⟩
    rcases List.mem_append.1 h with k | k
    · split at k
      · rename_i e
        simp only at e k
        obtain rfl := List.mem_singleton.1 k
        subst e
        exact .inl hp
      · cases k
    · split at k
      · rename_i e
        simp only at e k
        obtain rfl := List.mem_singleton.1 k
        subst e
        exact .inr hp
      · cases k
  · rintro (h | h)
    · exact ⟨_, h, by simp⟩
    · exact ⟨_, h, by simp⟩
theorem adj_take (l : List Pr) (x : Int) (k : Nat) (hk : k < l.length) : adj (l.take (k + 1)) x = adj (l.take k) x ++ adj1 x l[k] := by
  unfold adj
  rw [List.take_succ_eq_append_getElem hk, List.flatMap_append]
  simp
/-- Joined with v. -/
inductive Reach (l : List Pr) (v : Int) : Int → Prop
  | base : Reach l v v
  | step {x y : Int} : Reach l v x → y ∈ adj l x → Reach l v y
theorem Reach.trans {l : List Pr} {a b c : Int} (h : Reach l a b) (k : Reach l b c) : Reach l a c := by
  induction k with
  | base => exact h
  | step _ hy ih => exact ih.step hy

/-! ### The walk. -/
def Post (l : List Pr) (M : List Int) (v : Int) (M' : List Int) : Prop :=
  (∀ x ∈ M, x ∈ M') ∧ v ∈ M' ∧ (∀ x ∈ M', x ∈ M ∨ Reach l v x) ∧ (∀ x ∈ M', x ∉ M → ∀ y ∈ adj l x, y ∈ M') ∧ M'.Nodup
def Mid (l : List Pr) (M : List Int) (v : Int) (i : Nat) (Mi : List Int) : Prop :=
  (∀ x ∈ M, x ∈ Mi) ∧ v ∈ Mi ∧ (∀ x ∈ Mi, x ∈ M ∨ Reach l v x) ∧ (∀ x ∈ Mi, x ∉ M → x ≠ v → ∀ y ∈ adj l x, y ∈ Mi) ∧ (∀ y ∈ (adj l v).take i, y ∈ Mi) ∧ Mi.Nodup
theorem post_there {l : List Pr} {M : List Int} {v : Int} (hn : M.Nodup) (h : v ∈ M) : Post l M v M := ⟨fun _ h => h, h, fun _ h => .inl h, fun x h k => absurd h k, hn⟩
theorem mid_start {l : List Pr} {M : List Int} {v : Int} (hn : M.Nodup) (h : v ∉ M) : Mid l M v 0 (M ++ [v]) := by
  refine ⟨fun x hx => List.mem_append_left _ hx, by simp, fun x hx => ?_, fun x hx h1 h2 => ?_, by simp, ?_⟩
  · rcases List.mem_append.1 hx with hx | hx
    · exact .inl hx
    · rw [List.mem_singleton] at hx; subst hx; exact .inr .base
  · rcases List.mem_append.1 hx with hx | hx
    · exact absurd hx h1
    · rw [List.mem_singleton] at hx; exact absurd hx h2
  · rw [List.nodup_append]
    refine ⟨hn, by simp, ?_⟩
    rintro a ha b hb rfl
    rw [List.mem_singleton] at hb
    subst hb
    exact h ha
theorem mid_step {l : List Pr} {M Mi M' : List Int} {v : Int} {i : Nat} (h : Mid l M v i Mi) (hi : i < (adj l v).length) (k : Post l Mi (adj l v)[i] M') : Mid l M v (i + 1) M' := by
  obtain ⟨a1, a2, a3, a4, a5, a6⟩ := h
  obtain ⟨b1, b2, b3, b4, b5⟩ := k
  have hy : (adj l v)[i] ∈ adj l v := List.getElem_mem hi
  refine ⟨fun x hx => b1 x (a1 x hx), b1 v a2, fun x hx => ?_, fun x hx h1 h2 y hy' => ?_, fun y hy' => ?_, b5⟩
  · rcases b3 x hx with h | h
    · exact a3 x h
    · exact .inr ((Reach.base.step hy).trans h)
  · by_cases hm : x ∈ Mi
    · exact b1 y (a4 x hm h1 h2 y hy')
    · exact b4 x hx hm y hy'
  · rw [List.take_succ_eq_append_getElem hi] at hy'
    rcases List.mem_append.1 hy' with h | h
    · exact b1 y (a5 y h)
    · rw [List.mem_singleton] at h; subst h; exact b2
theorem mid_end {l : List Pr} {M Mi : List Int} {v : Int} {i : Nat} (h : Mid l M v i Mi) (hv : v ∉ M) (hi : (adj l v).length ≤ i) : Post l M v Mi := by
  obtain ⟨a1, a2, a3, a4, a5, a6⟩ := h
  rw [List.take_of_length_le hi] at a5
  refine ⟨a1, a2, a3, fun x hx h1 y hy => ?_, a6⟩
  by_cases e : x = v
  · subst e; exact a5 y hy
  · exact a4 x hx h1 e y hy
theorem post_reach {l : List Pr} {v : Int} {M' : List Int} (h : Post l [] v M') (x : Int) : x ∈ M' ↔ Reach l v x := by
  obtain ⟨_, a2, a3, a4, _⟩ := h
  constructor
  · intro hx
    exact (a3 x hx).resolve_left (by simp)
  · intro hr
    induction hr with
    | base => exact a2
    | step _ hy ih => exact a4 _ ih (by simp) _ hy
/-- How many are not met yet. -/
def unmet (U M : List Int) : Nat := (U.filter fun x => decide (x ∉ M)).length
theorem unmet_lt {U M Mi : List Int} {v : Int} (hv : v ∈ U) (hm : v ∉ M) (h1 : ∀ x ∈ M, x ∈ Mi) (h2 : v ∈ Mi) : unmet U Mi < unmet U M := by
  unfold unmet
  induction U with
  | nil => cases hv
  | cons a U ih =>
    have hle : (U.filter fun x => decide (x ∉ Mi)).length ≤ (U.filter fun x => decide (x ∉ M)).length := by
      rw [← List.countP_eq_length_filter, ← List.countP_eq_length_filter]
      refine List.countP_mono_left fun x _ hx => ?_
      simp only [decide_eq_true_eq] at hx ⊢
      exact fun k => hx (h1 x k)
    rcases List.mem_cons.1 hv with rfl | hv
    · rw [List.filter_cons, List.filter_cons]
      simp only [h2, hm, not_true, decide_false, not_false_eq_true, decide_true, if_true, Bool.false_eq_true, if_false, List.length_cons]
      omega
    · have := ih hv
      rw [List.filter_cons, List.filter_cons]
      by_cases hb : a ∈ M
      · have hc := h1 a hb
        simp only [hb, hc, not_true, decide_false, Bool.false_eq_true, if_false]
        exact this
      · by_cases hc : a ∈ Mi
        · simp only [hb, hc, not_true, decide_false, Bool.false_eq_true, if_false, not_false_eq_true, decide_true, if_true, List.length_cons]
          omega
        · simp only [hb, hc, not_false_eq_true, decide_true, if_true, List.length_cons]
          omega
/-- All that there is. -/
def verts (l : List Pr) (v : Int) : List Int := v :: l.flatMap fun p => [p.1, p.2]
theorem verts_adj {l : List Pr} {v x y : Int} (h : y ∈ adj l x) : y ∈ verts l v := by
  refine .tail _ (List.mem_flatMap.2 ?_)
  rcases mem_adj.1 h with h | h
  · exact ⟨_, h, by simp⟩
  · exact ⟨_, h, by simp⟩

/-! ### The document's answer. -/
def pst (n : Int) (s : List Int × Bool) (y : Int) : List Int × Bool := if s.2 = false ∧ n < y then (s.1 ++ [n] ++ [y], true) else (s.1 ++ [y], s.2)
def pfin (n : Int) (s : List Int × Bool) : List Int := if s.2 = true then s.1 else s.1 ++ [n]
def ins (l : List Int) (n : Int) : List Int := pfin n (l.foldl (pst n) ([], decide (n ∈ l)))
def Rising (l : List Int) : Prop := l.Pairwise (· < ·)
def insr (n : Int) : List Int → List Int
  | [] => [n]
  | y :: l => if n < y then n :: y :: l else y :: insr n l
theorem fold_done (n : Int) : ∀ (l o : List Int), l.foldl (pst n) (o, true) = (o ++ l, true)
  | [], o => by simp
  | y :: l, o => by
    rw [List.foldl_cons, show pst n (o, true) y = (o ++ [y], true) from by simp [pst], fold_done n l]
    simp
theorem fold_open (n : Int) : ∀ (l o : List Int), pfin n (l.foldl (pst n) (o, false)) = o ++ insr n l
  | [], o => by simp [pfin, insr]
  | y :: l, o => by
    rw [List.foldl_cons]
    unfold insr
    by_cases h : n < y
    · rw [show pst n (o, false) y = (o ++ [n] ++ [y], true) from by simp [pst, h], fold_done, if_pos h]
      simp [pfin]
    · rw [show pst n (o, false) y = (o ++ [y], false) from by simp [pst, h], fold_open n l, if_neg h]
      simp
theorem ins_there {l : List Int} {n : Int} (h : n ∈ l) : ins l n = l := by
  unfold ins
  rw [decide_eq_true h, fold_done]
  simp [pfin]
theorem ins_new {l : List Int} {n : Int} (h : n ∉ l) : ins l n = insr n l := by
  unfold ins
  rw [decide_eq_false h, fold_open]
  rfl
theorem mem_insr (n x : Int) : ∀ l : List Int, x ∈ insr n l ↔ x = n ∨ x ∈ l
  | [] => by simp [insr]
  | y :: l => by
    unfold insr
    split
    · simp
    · rw [List.mem_cons, mem_insr n x l, List.mem_cons]
      constructor
      · rintro (h | h | h) <;> simp [h]
      · rintro (h | h | h) <;> simp [h]
theorem len_insr (n : Int) : ∀ l : List Int, (insr n l).length = l.length + 1
  | [] => rfl
  | y :: l => by
    unfold insr
    split
    · rfl
    · rw [List.length_cons, len_insr n l, List.length_cons]
theorem insr_rising {n : Int} : ∀ {l : List Int}, Rising l → n ∉ l → Rising (insr n l)
  | [], _, _ => by simp [insr, Rising]
  | y :: l, h, hn => by
    obtain ⟨h1, h2⟩ := List.pairwise_cons.1 h
    have hny : n ≠ y := fun e => hn (e ▸ .head _)
    unfold insr
    split
    · rename_i hlt
      exact List.pairwise_cons.2 ⟨fun z hz => by
        rcases List.mem_cons.1 hz with rfl | hz
        · exact hlt
        · have := h1 z hz; omega, h⟩
    · rename_i hlt
      refine List.pairwise_cons.2 ⟨fun z hz => ?_, insr_rising h2 fun k => hn (.tail _ k)⟩
      rcases (mem_insr n z l).1 hz with rfl | hz
      · omega
      · exact h1 z hz
theorem mem_ins {l : List Int} {n x : Int} : x ∈ ins l n ↔ x = n ∨ x ∈ l := by
  by_cases h : n ∈ l
  · rw [ins_there h]
    exact ⟨.inr, fun k => k.elim (fun e => e ▸ h) id⟩
  · rw [ins_new h, mem_insr]
theorem ins_rising {l : List Int} {n : Int} (h : Rising l) : Rising (ins l n) := by
  by_cases hn : n ∈ l
  · rw [ins_there hn]; exact h
  · rw [ins_new hn]; exact insr_rising h hn
theorem ins_len (l : List Int) (n : Int) : (ins l n).length = if n ∈ l then l.length else l.length + 1 := by
  by_cases hn : n ∈ l
  · rw [ins_there hn, if_pos hn]
  · rw [ins_new hn, len_insr, if_neg hn]
def mst (out : List Int) (p : Pr) : List Int := if p.1 ∈ out ∨ p.2 ∈ out then ins (ins out p.1) p.2 else out
def rnd (l : List Pr) (out : List Int) : List Int := l.foldl mst out
def itr (l : List Pr) (v : Int) : Nat → List Int
  | 0 => [v]
  | k + 1 => rnd l (itr l v k)
def members (l : List Pr) (v : Int) : List Int := itr l v l.length
theorem mst_mono {out : List Int} {p : Pr} {x : Int} (h : x ∈ out) : x ∈ mst out p := by
  unfold mst
  split
  · exact mem_ins.2 (.inr (mem_ins.2 (.inr h)))
  · exact h
theorem mst_rising {out : List Int} {p : Pr} (h : Rising out) : Rising (mst out p) := by
  unfold mst
  split
  · exact ins_rising (ins_rising h)
  · exact h
theorem mst_same_or {out : List Int} {p : Pr} : mst out p = out ∨ out.length < (mst out p).length := by
  unfold mst
  split
  · by_cases h1 : p.1 ∈ out
    · rw [ins_there h1]
      by_cases h2 : p.2 ∈ out
      · exact .inl (ins_there h2)
      · right; rw [ins_len, if_neg h2]; omega
    · right
      rw [ins_len, ins_len, if_neg h1]
      split <;> omega
  · exact .inl rfl
theorem fold_mono {x : Int} : ∀ (l : List Pr) {out : List Int}, x ∈ out → x ∈ l.foldl mst out
  | [], _, h => h
  | p :: l, _, h => fold_mono l (mst_mono h)
theorem fold_rising : ∀ (l : List Pr) {out : List Int}, Rising out → Rising (l.foldl mst out)
  | [], _, h => h
  | p :: l, _, h => fold_rising l (mst_rising h)
theorem fold_same_or : ∀ (l : List Pr) (out : List Int), l.foldl mst out = out ∨ out.length < (l.foldl mst out).length
  | [], _ => .inl rfl
  | p :: l, out => by
    rw [List.foldl_cons]
    rcases mst_same_or (out := out) (p := p) with h | h
    · rw [h]; exact fold_same_or l out
    · right
      rcases fold_same_or l (mst out p) with k | k
      · rw [k]; exact h
      · omega
def Closed (l : List Pr) (out : List Int) : Prop := ∀ p ∈ l, p.1 ∈ out ∨ p.2 ∈ out → p.1 ∈ out ∧ p.2 ∈ out
theorem mst_both {out : List Int} {p : Pr} (h : p.1 ∈ out ∨ p.2 ∈ out) : p.1 ∈ mst out p ∧ p.2 ∈ mst out p := by
  unfold mst
  rw [if_pos h]
  exact ⟨mem_ins.2 (.inr (mem_ins.2 (.inl rfl))), mem_ins.2 (.inl rfl)⟩
theorem fold_both : ∀ (l : List Pr) {out : List Int} {p : Pr}, p ∈ l → (p.1 ∈ out ∨ p.2 ∈ out) → p.1 ∈ l.foldl mst out ∧ p.2 ∈ l.foldl mst out
  | [], _, _, h, _ => by cases h
  | q :: l, out, p, h, k => by
    rw [List.foldl_cons]
    rcases List.mem_cons.1 h with rfl | h
    · have := mst_both k
      exact ⟨fold_mono l this.1, fold_mono l this.2⟩
    · exact fold_both l h (k.imp mst_mono mst_mono)
theorem closed_of_same {l : List Pr} {out : List Int} (h : rnd l out = out) : Closed l out := fun p hp k => by
  have := fold_both l hp k
  unfold rnd at h
  rwa [h] at this
theorem mst_closed {out : List Int} {p : Pr} (h : p.1 ∈ out ∨ p.2 ∈ out → p.1 ∈ out ∧ p.2 ∈ out) : mst out p = out := by
  unfold mst
  split
  · rename_i k
    rw [ins_there (h k).1, ins_there (h k).2]
  · rfl
theorem same_of_closed {out : List Int} : ∀ {l : List Pr}, Closed l out → rnd l out = out
  | [], _ => rfl
  | p :: l, h => by
    unfold rnd
    rw [List.foldl_cons, mst_closed (h p (.head _))]
    exact same_of_closed fun q hq => h q (.tail _ hq)
theorem closed_reach {l : List Pr} {out : List Int} {v x : Int} (hc : Closed l out) (hv : v ∈ out) (h : Reach l v x) : x ∈ out := by
  induction h with
  | base => exact hv
  | step _ hy ih =>
    rcases mem_adj.1 hy with h | h
    · exact (hc _ h (.inl ih)).2
    · exact (hc _ h (.inr ih)).1
/-- How many edges lie within. -/
def within (l : List Pr) (out : List Int) : Nat := l.countP fun p => decide (p.1 ∈ out ∧ p.2 ∈ out)
theorem within_mono {l : List Pr} {out out' : List Int} (h : ∀ x ∈ out, x ∈ out') : within l out ≤ within l out' := by
  refine List.countP_mono_left fun p _ k => ?_
  simp only [decide_eq_true_eq] at k ⊢
  exact ⟨h _ k.1, h _ k.2⟩
theorem within_lt {out out' : List Int} (h : ∀ x ∈ out, x ∈ out') : ∀ {l : List Pr} {p : Pr}, p ∈ l → ¬ (p.1 ∈ out ∧ p.2 ∈ out) → (p.1 ∈ out' ∧ p.2 ∈ out') → within l out < within l out'
  | [], _, hp, _, _ => by cases hp
  | q :: l, p, hp, h1, h2 => by
    unfold within
    rw [List.countP_cons, List.countP_cons]
    rcases List.mem_cons.1 hp with rfl | hp
    · have := within_mono (l := l) h
      unfold within at this
      rw [decide_eq_false h1, decide_eq_true h2]
      simp only [if_true, Bool.false_eq_true, if_false]
      omega
    · have := within_lt h hp h1 h2
      unfold within at this
      by_cases k : q.1 ∈ out ∧ q.2 ∈ out
      · have k' : q.1 ∈ out' ∧ q.2 ∈ out' := ⟨h _ k.1, h _ k.2⟩
        rw [decide_eq_true k, decide_eq_true k']
        simp only [if_true]
        omega
      · rw [decide_eq_false k]
        simp only [Bool.false_eq_true, if_false]
        omega
theorem mst_few {l : List Pr} {out : List Int} {p : Pr} (hp : p ∈ l) (h : out.length ≤ 1 + within l out) : (mst out p).length ≤ 1 + within l (mst out p) := by
  by_cases k : p.1 ∈ out ∨ p.2 ∈ out
  · by_cases k2 : p.1 ∈ out ∧ p.2 ∈ out
    · rw [mst_closed fun _ => k2]; exact h
    · have hlt := within_lt (l := l) (out := out) (out' := mst out p) (fun x hx => mst_mono hx) hp k2 (mst_both k)
      have hlen : (mst out p).length ≤ out.length + 1 := by
        unfold mst
        rw [if_pos k, ins_len, ins_len]
        by_cases a : p.1 ∈ out
        · rw [ins_there a, if_pos a]
          split <;> omega
        · have b : p.2 ∈ out := k.resolve_left a
          rw [if_neg a, if_pos (mem_ins.2 (.inr b))]
          omega
      omega
  · unfold mst
    rw [if_neg k]
    exact h
theorem fold_few {l : List Pr} : ∀ (m : List Pr) {out : List Int}, (∀ p ∈ m, p ∈ l) → out.length ≤ 1 + within l out → (m.foldl mst out).length ≤ 1 + within l (m.foldl mst out)
  | [], _, _, h => h
  | p :: m, _, hm, h => fold_few m (fun q hq => hm q (.tail _ hq)) (mst_few (hm p (.head _)) h)
theorem itr_facts (l : List Pr) (v : Int) : ∀ k, Rising (itr l v k) ∧ v ∈ itr l v k ∧ (itr l v k).length ≤ 1 + within l (itr l v k) ∧ (Closed l (itr l v k) ∨ k + 1 ≤ (itr l v k).length)
  | 0 => ⟨List.pairwise_singleton _ _, .head _, by simp [itr], .inr (by simp [itr])⟩
  | k + 1 => by
    obtain ⟨h1, h2, h3, h4⟩ := itr_facts l v k
    refine ⟨fold_rising l h1, fold_mono l h2, fold_few l (fun _ h => h) h3, ?_⟩
    rcases h4 with h4 | h4
    · left
      show Closed l (rnd l (itr l v k))
      rw [same_of_closed h4]
      exact h4
    · rcases fold_same_or l (itr l v k) with h | h
      · left
        show Closed l (rnd l (itr l v k))
        unfold rnd
        rw [h]
        exact closed_of_same h
      · right
        show k + 1 + 1 ≤ (l.foldl mst (itr l v k)).length
        omega
theorem members_closed (l : List Pr) (v : Int) : Closed l (members l v) := by
  obtain ⟨_, _, h3, h4⟩ := itr_facts l v l.length
  rcases h4 with h | h
  · exact h
  · intro p hp _
    have hall : within l (members l v) = l.length := by
      have h5 : within l (itr l v l.length) ≤ l.length := List.countP_le_length
      unfold members
      omega
    unfold within at hall
    rw [List.countP_eq_length] at hall
    simpa using hall p hp
theorem mst_reach {l : List Pr} {v : Int} {out : List Int} {p : Pr} (hp : p ∈ l) (h : ∀ x ∈ out, Reach l v x) : ∀ x ∈ mst out p, Reach l v x := by
  intro x hx
  unfold mst at hx
  split at hx
  · rename_i k
    have h12 : Reach l v p.1 ∧ Reach l v p.2 := by
      rcases k with k | k
      · exact ⟨h _ k, (h _ k).step (mem_adj.2 (.inl hp))⟩
      · exact ⟨(h _ k).step (mem_adj.2 (.inr hp)), h _ k⟩
    rcases mem_ins.1 hx with rfl | hx
    · exact h12.2
    · rcases mem_ins.1 hx with rfl | hx
      · exact h12.1
      · exact h x hx
  · exact h x hx
theorem fold_reach {l : List Pr} {v : Int} : ∀ (m : List Pr) {out : List Int}, (∀ p ∈ m, p ∈ l) → (∀ x ∈ out, Reach l v x) → ∀ x ∈ m.foldl mst out, Reach l v x
  | [], _, _, h => h
  | p :: m, _, hm, h => fold_reach m (fun q hq => hm q (.tail _ hq)) (mst_reach (hm p (.head _)) h)
theorem itr_reach (l : List Pr) (v : Int) : ∀ k, ∀ x ∈ itr l v k, Reach l v x
  | 0 => fun x hx => by rw [itr, List.mem_singleton] at hx; subst hx; exact .base
  | k + 1 => fold_reach l (fun _ h => h) (itr_reach l v k)
theorem mem_members (l : List Pr) (v x : Int) : x ∈ members l v ↔ Reach l v x := ⟨itr_reach l v _ x, closed_reach (members_closed l v) (itr_facts l v l.length).2.1⟩
theorem rising_nodup {l : List Int} (h : Rising l) : l.Nodup := List.Pairwise.imp (fun h e => by omega) h
theorem members_nodup (l : List Pr) (v : Int) : (members l v).Nodup := rising_nodup (itr_facts l v _).1
theorem members_len (l : List Pr) (v : Int) : (members l v).length ≤ l.length + 1 := by
  have h := (itr_facts l v l.length).2.2.1
  have h5 : within l (itr l v l.length) ≤ l.length := List.countP_le_length
  unfold members
  omega
theorem itr_len (l : List Pr) (v : Int) (k : Nat) : (itr l v k).length ≤ l.length + 1 := by
  have h := (itr_facts l v k).2.2.1
  have h5 : within l (itr l v k) ≤ l.length := List.countP_le_length
  omega
theorem same_len {a b : List Int} (ha : a.Nodup) (hb : b.Nodup) (h : ∀ x, x ∈ a ↔ x ∈ b) : a.length = b.length := ((List.perm_ext_iff_of_nodup ha hb).2 h).length_eq
end Go.Proofs.YthbbdicdcmjpiaaGreatDoor.Gr
