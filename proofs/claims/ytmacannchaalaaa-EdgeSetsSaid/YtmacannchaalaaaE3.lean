/-
  Lists of pairs as sets, in plain words: sorted, each once; taken from one another, told apart, changed. No program in sight. It proves no statement by itself.
-/
import Derived.Test.YtmacannchaalaaaSl
namespace Go.Proofs.Ytmacannchaalaaa
set_option linter.unusedSimpArgs false
set_option linter.unusedVariables false

abbrev Pr := Int × Int
namespace Eg
/-- In order. -/
def less (a b : Pr) : Bool := decide (a.1 < b.1) || (a.1 == b.1 && decide (a.2 < b.2))
theorem less_iff {a b : Pr} : less a b = true ↔ a.1 < b.1 ∨ (a.1 = b.1 ∧ a.2 < b.2) := by simp [less]
theorem less_irrefl (a : Pr) : less a a = false := by
  rw [Bool.eq_false_iff]; intro h; rw [less_iff] at h; omega
theorem less_trans {a b c : Pr} (h : less a b = true) (k : less b c = true) : less a c = true := by
  rw [less_iff] at *; omega
theorem less_asym {a b : Pr} (h : less a b = true) : less b a = false := by
  rw [Bool.eq_false_iff]; intro k; rw [less_iff] at *; omega
theorem less_total {a b : Pr} (h : less a b = false) (k : less b a = false) : a = b := by
  rw [Bool.eq_false_iff, ne_eq, less_iff] at h k
  exact Prod.ext (by omega) (by omega)
/-- Rising, each once. -/
def Srt (l : List Pr) : Prop := l.Pairwise (fun a b => less a b = true)
theorem Srt.cons {x : Pr} {l : List Pr} : Srt (x :: l) ↔ (∀ y ∈ l, less x y = true) ∧ Srt l := List.pairwise_cons
theorem Srt.nil : Srt [] := List.Pairwise.nil
theorem Srt.filter {l : List Pr} (h : Srt l) (p : Pr → Bool) : Srt (l.filter p) := List.Pairwise.filter p h
/-- Two such lists of the same pairs are one. -/
theorem srt_ext : ∀ {l m : List Pr}, Srt l → Srt m → (∀ x, x ∈ l ↔ x ∈ m) → l = m
  | [], [], _, _, _ => rfl
  | [], y :: m, _, _, h => absurd ((h y).2 (List.mem_cons_self ..)) (by simp)
  | x :: l, [], _, _, h => absurd ((h x).1 (List.mem_cons_self ..)) (by simp)
  | x :: l, y :: m, hl, hm, h => by
    obtain ⟨l1, l2⟩ := Srt.cons.1 hl
    obtain ⟨m1, m2⟩ := Srt.cons.1 hm
    have e : x = y := by
      rcases List.mem_cons.1 ((h x).1 (List.mem_cons_self ..)) with e | hx
      · exact e
      · rcases List.mem_cons.1 ((h y).2 (List.mem_cons_self ..)) with e | hy
        · exact e.symm
        · have := less_asym (m1 x hx)
          rw [l1 y hy] at this
          cases this
    subst e
    rw [srt_ext l2 m2 fun z => ?_]
    constructor
    · intro hz
      rcases List.mem_cons.1 ((h z).1 (List.mem_cons_of_mem _ hz)) with e | k
      · subst e; have := l1 z hz; rw [less_irrefl] at this; cases this
      · exact k
    · intro hz
      rcases List.mem_cons.1 ((h z).2 (List.mem_cons_of_mem _ hz)) with e | k
      · subst e; have := m1 z hz; rw [less_irrefl] at this; cases this
      · exact k

/-! ### the document's -/
def ins (p : Pr) : List Pr → List Pr
  | [] => [p]
  | q :: l => if less p q then p :: q :: l else q :: ins p l
def put (l : List Pr) (p : Pr) : List Pr := if p ∈ l then l else ins p l
def sort (l : List Pr) : List Pr := l.foldl put []
def without (l : List Pr) (p : Pr) : List Pr := l.filter fun x => decide (x ≠ p)
def minus (a b : List Pr) : List Pr := (sort a).filter fun x => !decide (x ∈ b)
def diff (a b : List Pr) : List (Pr × Bool) := (sort (minus a b ++ minus b a)).map fun x => (x, decide (x ∈ b))
def one (s : List Pr) (x : Pr × Bool) : List Pr := if x.2 then put s x.1 else without s x.1
def apply (l : List Pr) (c : List (Pr × Bool)) : List Pr := c.foldl one (sort l)

theorem mem_ins (p x : Pr) : ∀ l, x ∈ ins p l ↔ x = p ∨ x ∈ l
  | [] => by simp [ins]
  | q :: l => by
    unfold ins
    split
    · simp
    · rw [List.mem_cons, mem_ins p x l, List.mem_cons]
      constructor
      · rintro (h | h | h)
        · exact .inr (.inl h)
        · exact .inl h
        · exact .inr (.inr h)
      · rintro (h | h | h)
        · exact .inr (.inl h)
        · exact .inl h
        · exact .inr (.inr h)
theorem srt_ins (p : Pr) : ∀ l, Srt l → p ∉ l → Srt (ins p l)
  | [], _, _ => Srt.cons.2 ⟨by simp, Srt.nil⟩
  | q :: l, h, hp => by
    obtain ⟨h1, h2⟩ := Srt.cons.1 h
    unfold ins
    split
    · rename_i hl
      refine Srt.cons.2 ⟨fun y hy => ?_, h⟩
      rcases List.mem_cons.1 hy with rfl | hy
      · exact hl
      · exact less_trans hl (h1 y hy)
    · rename_i hl
      have hpl : p ∉ l := fun k => hp (List.mem_cons_of_mem _ k)
      have hpq : p ≠ q := fun e => hp (e ▸ List.mem_cons_self ..)
      refine Srt.cons.2 ⟨fun y hy => ?_, srt_ins p l h2 hpl⟩
      rcases (mem_ins p y l).1 hy with rfl | hy
      · cases k : less q y with
        | true => rfl
        | false => exact absurd (less_total (by simpa using hl) k) hpq
      · exact h1 y hy
theorem mem_put (l : List Pr) (p x : Pr) : x ∈ put l p ↔ x = p ∨ x ∈ l := by
  unfold put
  split
  · rename_i h
    constructor
    · exact .inr
    · rintro (rfl | k)
      · exact h
      · exact k
  · exact mem_ins p x l
theorem srt_put {l : List Pr} (h : Srt l) (p : Pr) : Srt (put l p) := by
  unfold put
  split
  · exact h
  · exact srt_ins p l h (by assumption)
theorem mem_without (l : List Pr) (p x : Pr) : x ∈ without l p ↔ x ∈ l ∧ x ≠ p := by simp [without]
theorem srt_without {l : List Pr} (h : Srt l) (p : Pr) : Srt (without l p) := h.filter _
theorem sort_key : ∀ (l s : List Pr), Srt s → Srt (l.foldl put s) ∧ ∀ x, x ∈ l.foldl put s ↔ x ∈ l ∨ x ∈ s
  | [], s, h => ⟨h, fun x => by simp⟩
  | p :: l, s, h => by
    obtain ⟨h1, h2⟩ := sort_key l (put s p) (srt_put h p)
    refine ⟨h1, fun x => ?_⟩
    rw [List.foldl_cons, h2, mem_put, List.mem_cons]
    constructor
    · rintro (k | k | k)
      · exact .inl (.inr k)
      · exact .inl (.inl k)
      · exact .inr k
    · rintro ((k | k) | k)
      · exact .inr (.inl k)
      · exact .inl k
      · exact .inr (.inr k)
theorem srt_sort (l : List Pr) : Srt (sort l) := (sort_key l [] Srt.nil).1
theorem mem_sort (l : List Pr) (x : Pr) : x ∈ sort l ↔ x ∈ l := by rw [sort, (sort_key l [] Srt.nil).2]; simp
/-- What is rising, and has l's pairs, is l sorted. -/
theorem sort_of {l m : List Pr} (h : Srt m) (k : ∀ x, x ∈ m ↔ x ∈ l) : m = sort l := srt_ext h (srt_sort l) fun x => by rw [k, mem_sort]
theorem sort_same {l : List Pr} (h : Srt l) : sort l = l := (sort_of h fun _ => Iff.rfl).symm
theorem mem_minus (a b : List Pr) (x : Pr) : x ∈ minus a b ↔ x ∈ a ∧ x ∉ b := by simp [minus, mem_sort]
theorem srt_minus (a b : List Pr) : Srt (minus a b) := (srt_sort a).filter _
theorem apply_key : ∀ (c : List (Pr × Bool)) (s : List Pr), Srt s → Srt (c.foldl one s)
  | [], s, h => h
  | x :: c, s, h => by
    refine apply_key c (one s x) ?_
    unfold one
    split
    · exact srt_put h _
    · exact srt_without h _
theorem srt_apply (l : List Pr) (c : List (Pr × Bool)) : Srt (apply l c) := apply_key c _ (srt_sort l)
/-- Of changes that tell of each pair at most once: who is there behind them. -/
theorem apply_mem (b : List Pr) : ∀ (m : List Pr) (s : List Pr), Srt m → ∀ x, x ∈ (m.map fun y => (y, decide (y ∈ b))).foldl one s ↔ if x ∈ m then x ∈ b else x ∈ s
  | [], s, _, x => by simp
  | y :: m, s, h, x => by
    obtain ⟨h1, h2⟩ := Srt.cons.1 h
    rw [List.map_cons, List.foldl_cons, apply_mem b m _ h2 x]
    by_cases e : x = y
    · subst e
      have hx : x ∉ m := fun k => by have := h1 x k; rw [less_irrefl] at this; cases this
      rw [if_neg hx, if_pos (List.mem_cons_self ..)]
      unfold one
      by_cases hb : x ∈ b
      · simp [hb, mem_put]
      · simp [hb, mem_without]
    · have hm : x ∈ y :: m ↔ x ∈ m := by simp [e]
      by_cases k : x ∈ m
      · rw [if_pos k, if_pos (hm.2 k)]
      · rw [if_neg k, if_neg (fun h => k (hm.1 h))]
        unfold one
        split
        · rw [mem_put]; simp [e]
        · rw [mem_without]; simp [e]
theorem diff_there (a b : List Pr) : apply a (diff a b) = sort b := by
  refine sort_of (srt_apply _ _) fun x => ?_
  unfold apply diff
  rw [apply_mem b _ _ (srt_sort _) x]
  simp only [mem_sort, List.mem_append, mem_minus]
  by_cases ha : x ∈ a <;> by_cases hb : x ∈ b <;> simp [ha, hb]

/-! ### what the program does -/
/-- Neighbours that are the same: once. -/
def uniq : List Pr → List Pr
  | [] => []
  | x :: l => match uniq l with
    | [] => [x]
    | y :: m => if x = y then y :: m else x :: y :: m
def Weak (l : List Pr) : Prop := l.Pairwise (fun a b => less b a = false)
theorem mem_uniq (x : Pr) : ∀ l, x ∈ uniq l ↔ x ∈ l
  | [] => by simp [uniq]
  | y :: l => by
    have ih := mem_uniq x l
    unfold uniq
    split
    · rename_i h
      rw [h] at ih
      simp at ih
      simp [ih]
    · rename_i z m h
      rw [h] at ih
      split
      · rename_i e
        subst e
        rw [ih, List.mem_cons]
        constructor
        · exact .inr
        · rintro (rfl | k)
          · exact ih.1 (List.mem_cons_self ..)
          · exact k
      · rw [List.mem_cons, ih, List.mem_cons]
theorem srt_uniq : ∀ l, Weak l → Srt (uniq l)
  | [], _ => Srt.nil
  | x :: l, h => by
    obtain ⟨h1, h2⟩ := List.pairwise_cons.1 h
    have ih := srt_uniq l h2
    have hm := fun z => mem_uniq z l
    unfold uniq
    split
    · exact Srt.cons.2 ⟨by simp, Srt.nil⟩
    · rename_i y m e
      rw [e] at ih hm
      split
      · exact ih
      · rename_i hxy
        obtain ⟨i1, i2⟩ := Srt.cons.1 ih
        refine Srt.cons.2 ⟨fun z hz => ?_, ih⟩
        have hxy' : less x y = true := by
          cases k : less x y with
          | true => rfl
          | false => exact absurd (less_total k (h1 y ((hm y).1 (List.mem_cons_self ..)))) hxy
        rcases List.mem_cons.1 hz with rfl | hz
        · exact hxy'
        · exact less_trans hxy' (i1 z hz)
/-- Two rising lists gone through: each pair once, and in which it is. -/
def mrg : List Pr → List Pr → List (Pr × Bool × Bool)
  | [], [] => []
  | [], y :: b => (y, false, true) :: mrg [] b
  | x :: a, [] => (x, true, false) :: mrg a []
  | x :: a, y :: b => if less x y then (x, true, false) :: mrg a (y :: b) else if less y x then (y, false, true) :: mrg (x :: a) b else (x, true, true) :: mrg a b
termination_by a b => a.length + b.length
theorem mrg_key (a b : List Pr) : Srt a → Srt b → Srt ((mrg a b).map (·.1)) ∧ ∀ x o t, (x, o, t) ∈ mrg a b ↔ (x ∈ a ∨ x ∈ b) ∧ o = decide (x ∈ a) ∧ t = decide (x ∈ b) := by
  fun_induction mrg a b with
  | case1 => intro _ _; exact ⟨Srt.nil, by simp⟩
  | case2 y b ih =>
    intro ha hb
    obtain ⟨b1, b2⟩ := Srt.cons.1 hb
    obtain ⟨i1, i2⟩ := ih ha b2
    refine ⟨Srt.cons.2 ⟨fun z hz => ?_, i1⟩, fun x o t => ?_⟩
    · obtain ⟨⟨z', o, t⟩, hq, rfl⟩ := List.mem_map.1 hz
      obtain ⟨k, _⟩ := (i2 z' o t).1 hq
      simp at k
      exact b1 _ k
    · rw [List.mem_cons, i2]
      by_cases e : x = y
      · subst e
        have : x ∉ b := fun k => by have := b1 x k; rw [less_irrefl] at this; cases this
        simp [this]
      · simp [e]
  | case3 x a ih =>
    intro ha hb
    obtain ⟨a1, a2⟩ := Srt.cons.1 ha
    obtain ⟨i1, i2⟩ := ih a2 hb
    refine ⟨Srt.cons.2 ⟨fun z hz => ?_, i1⟩, fun y o t => ?_⟩
    · obtain ⟨⟨z', o, t⟩, hq, rfl⟩ := List.mem_map.1 hz
      obtain ⟨k, _⟩ := (i2 z' o t).1 hq
      simp at k
      exact a1 _ k
    · rw [List.mem_cons, i2]
      by_cases e : y = x
      · subst e
        have : y ∉ a := fun k => by have := a1 y k; rw [less_irrefl] at this; cases this
        simp [this]
      · simp [e]
  | case4 x a y b h ih =>
    intro ha hb
    obtain ⟨a1, a2⟩ := Srt.cons.1 ha
    obtain ⟨b1, b2⟩ := Srt.cons.1 hb
    obtain ⟨i1, i2⟩ := ih a2 hb
    have hx : x ∉ y :: b := by
      intro k
      rcases List.mem_cons.1 k with rfl | k
      · rw [less_irrefl] at h; cases h
      · have := less_trans h (b1 x k); rw [less_irrefl] at this; cases this
    have hxa : x ∉ a := fun k => by have := a1 x k; rw [less_irrefl] at this; cases this
    refine ⟨Srt.cons.2 ⟨fun z hz => ?_, i1⟩, fun z o t => ?_⟩
    · obtain ⟨⟨z', o, t⟩, hq, rfl⟩ := List.mem_map.1 hz
      obtain ⟨k, _⟩ := (i2 z' o t).1 hq
      rcases k with k | k
      · exact a1 _ k
      · rcases List.mem_cons.1 k with e | k
        · exact e ▸ h
        · exact less_trans h (b1 _ k)
    · rw [List.mem_cons, i2]
      by_cases e : z = x
      · subst e
        simp [hx, hxa]
      · simp [e]
  | case5 x a y b h h' ih =>
    intro ha hb
    obtain ⟨a1, a2⟩ := Srt.cons.1 ha
    obtain ⟨b1, b2⟩ := Srt.cons.1 hb
    obtain ⟨i1, i2⟩ := ih ha b2
    have hy : y ∉ x :: a := by
      intro k
      rcases List.mem_cons.1 k with rfl | k
      · rw [less_irrefl] at h'; cases h'
      · have := less_trans h' (a1 y k); rw [less_irrefl] at this; cases this
    have hyb : y ∉ b := fun k => by have := b1 y k; rw [less_irrefl] at this; cases this
    refine ⟨Srt.cons.2 ⟨fun z hz => ?_, i1⟩, fun z o t => ?_⟩
    · obtain ⟨⟨z', o, t⟩, hq, rfl⟩ := List.mem_map.1 hz
      obtain ⟨k, _⟩ := (i2 z' o t).1 hq
      rcases k with k | k
      · rcases List.mem_cons.1 k with e | k
        · exact e ▸ h'
        · exact less_trans h' (a1 _ k)
      · exact b1 _ k
    · rw [List.mem_cons, i2]
      by_cases e : z = y
      · subst e
        simp [hy, hyb]
      · simp [e]
  | case6 x a y b h h' ih =>
    intro ha hb
    obtain ⟨a1, a2⟩ := Srt.cons.1 ha
    obtain ⟨b1, b2⟩ := Srt.cons.1 hb
    obtain ⟨i1, i2⟩ := ih a2 b2
    obtain rfl : x = y := less_total (by simpa using h) (by simpa using h')
    have hxa : x ∉ a := fun k => by have := a1 x k; rw [less_irrefl] at this; cases this
    have hxb : x ∉ b := fun k => by have := b1 x k; rw [less_irrefl] at this; cases this
    refine ⟨Srt.cons.2 ⟨fun z hz => ?_, i1⟩, fun z o t => ?_⟩
    · obtain ⟨⟨z', o, t⟩, hq, rfl⟩ := List.mem_map.1 hz
      obtain ⟨k, _⟩ := (i2 z' o t).1 hq
      rcases k with k | k
      · exact a1 _ k
      · exact b1 _ k
    · rw [List.mem_cons, i2]
      by_cases e : z = x
      · subst e
        simp [hxa, hxb]
      · simp [e]
/-- What Minus gathers. -/
def mMinus (m : List (Pr × Bool × Bool)) : List Pr := (m.filter fun y => y.2.1 && !y.2.2).map (·.1)
def mDiff (m : List (Pr × Bool × Bool)) : List (Pr × Bool) := (m.filter fun y => y.2.1 != y.2.2).map fun y => (y.1, y.2.2)
theorem srt_gather {m : List (Pr × Bool × Bool)} (h : Srt (m.map (·.1))) (p : Pr × Bool × Bool → Bool) : Srt ((m.filter p).map (·.1)) :=
  List.Pairwise.sublist (List.Sublist.map _ List.filter_sublist) h
theorem mMinus_eq (a b : List Pr) : mMinus (mrg (sort a) (sort b)) = minus a b := by
  obtain ⟨k1, k2⟩ := mrg_key (sort a) (sort b) (srt_sort a) (srt_sort b)
  refine srt_ext (srt_gather k1 _) (srt_minus a b) fun x => ?_
  rw [mem_minus]
  unfold mMinus
  constructor
  · intro h
    obtain ⟨⟨y, o, t⟩, hy, rfl⟩ := List.mem_map.1 h
    obtain ⟨h1, h2⟩ := List.mem_filter.1 hy
    obtain ⟨_, e1, e2⟩ := (k2 _ _ _).1 h1
    simp only [mem_sort] at e1 e2
    simp only [Bool.and_eq_true, Bool.not_eq_true'] at h2
    rw [e1, e2] at h2
    simpa using h2
  · rintro ⟨ha, hb⟩
    refine List.mem_map.2 ⟨(x, true, false), List.mem_filter.2 ⟨(k2 _ _ _).2 ⟨.inl ((mem_sort a x).2 ha), ?_, ?_⟩, rfl⟩, rfl⟩
    · simp [mem_sort, ha]
    · simp [mem_sort, hb]
theorem mDiff_eq (a b : List Pr) : mDiff (mrg (sort a) (sort b)) = diff a b := by
  obtain ⟨k1, k2⟩ := mrg_key (sort a) (sort b) (srt_sort a) (srt_sort b)
  have e0 : mDiff (mrg (sort a) (sort b)) = (((mrg (sort a) (sort b)).filter fun y => y.2.1 != y.2.2).map (·.1)).map fun x => (x, decide (x ∈ b)) := by
    unfold mDiff
    rw [List.map_map]
    apply List.map_congr_left
    rintro ⟨y, o, t⟩ hy
    obtain ⟨_, _, e2⟩ := (k2 _ _ _).1 (List.mem_filter.1 hy).1
    simp only [mem_sort] at e2
    show (y, t) = (y, decide (y ∈ b))
    rw [e2]
  rw [e0]
  unfold diff
  congr 1
  refine srt_ext (srt_gather k1 _) (srt_sort _) fun x => ?_
  rw [mem_sort, List.mem_append, mem_minus, mem_minus]
  constructor
  · intro h
    obtain ⟨⟨y, o, t⟩, hy, rfl⟩ := List.mem_map.1 h
    obtain ⟨h1, h2⟩ := List.mem_filter.1 hy
    obtain ⟨hu, e1, e2⟩ := (k2 _ _ _).1 h1
    simp only [mem_sort] at e1 e2
    simp only [mem_sort] at hu
    simp only at h2
    rw [e1, e2] at h2
    by_cases ha : y ∈ a <;> by_cases hb : y ∈ b <;> simp_all
  · rintro (⟨ha, hb⟩ | ⟨hb, ha⟩)
    · refine List.mem_map.2 ⟨(x, true, false), List.mem_filter.2 ⟨(k2 _ _ _).2 ⟨.inl ((mem_sort a x).2 ha), ?_, ?_⟩, rfl⟩, rfl⟩
      · simp [mem_sort, ha]
      · simp [mem_sort, hb]
    · refine List.mem_map.2 ⟨(x, false, true), List.mem_filter.2 ⟨(k2 _ _ _).2 ⟨.inr ((mem_sort b x).2 hb), ?_, ?_⟩, rfl⟩, rfl⟩
      · simp [mem_sort, ha]
      · simp [mem_sort, hb]
end Eg
end Go.Proofs.Ytmacannchaalaaa
