/-
  Sets of numbers as runs: their laws. No program in sight. It proves no statement by itself.
-/
import Derived.Test.YtaekcmpeglagnaaR8b
namespace Go.Proofs.Ytaekcmpeglagnaa
set_option linter.unusedSimpArgs false
set_option linter.unusedVariables false

namespace Rs
theorem has_norm (l : List Rn) (n : Int) : Has (norm l) n ↔ Has l n := by rw [has_canon (canon_norm l), mem_norm]
theorem has_union (a b : List Rn) (n : Int) : Has (union a b) n ↔ Has a n ∨ Has b n := by rw [has_canon (canon_union a b), mem_union]
theorem has_meet (a b : List Rn) (n : Int) : Has (meet a b) n ↔ Has a n ∧ Has b n := by rw [has_canon (canon_meet a b), mem_meet]
theorem has_minus (a b : List Rn) (n : Int) : Has (minus a b) n ↔ Has a n ∧ ¬ Has b n := by
  rw [has_canon (canon_minus a b), ← pminus_eq, mem_pminus]
theorem has_one (m n : Int) : Has [(m, m)] n ↔ 0 ≤ n ∧ n ≤ most ∧ n = m := by
  unfold Has
  rw [mem_one]
  constructor
  · rintro ⟨a, b, c⟩; exact ⟨a, b, by omega⟩
  · rintro ⟨a, b, c⟩; exact ⟨a, b, by omega⟩
theorem eq_of_has {l m : List Rn} (hl : Canon l) (hm : Canon m) (h : ∀ n, Has l n ↔ Has m n) : l = m := canon_ext hl hm fun n => by rw [← has_canon hl, ← has_canon hm, h]
theorem union_comm (a b : List Rn) : union a b = union b a := eq_of_has (canon_union _ _) (canon_union _ _) fun n => by rw [has_union, has_union, or_comm]
theorem norm_union (a b : List Rn) : norm (union a b) = union a b := norm_same (canon_union a b)
theorem union_back (a b : List Rn) : union (minus a b) (meet a b) = norm a := eq_of_has (canon_union _ _) (canon_norm _) fun n => by
  rw [has_union, has_minus, has_meet, has_norm]
  by_cases h1 : Has a n <;> by_cases h2 : Has b n <;> simp [h1, h2]
theorem law_one (a b c : List Rn) : minus (minus a b) c = minus a (union b c) := eq_of_has (canon_minus _ _) (canon_minus _ _) fun n => by
  rw [has_minus, has_minus, has_minus, has_union]
  by_cases h1 : Has a n <;> by_cases h2 : Has b n <;> by_cases h3 : Has c n <;> simp [h1, h2, h3]
theorem law_three (a b c : List Rn) : union a (union b c) = union (union a b) c := eq_of_has (canon_union _ _) (canon_union _ _) fun n => by
  rw [has_union, has_union, has_union, has_union, or_assoc]
theorem law_four (a b c : List Rn) : meet a (union b c) = union (meet a b) (meet a c) := eq_of_has (canon_meet _ _) (canon_union _ _) fun n => by
  rw [has_meet, has_union, has_union, has_meet, has_meet]
  by_cases h1 : Has a n <;> by_cases h2 : Has b n <;> by_cases h3 : Has c n <;> simp [h1, h2, h3]
theorem count_range (l : List Rn) : 0 ≤ count l ∧ count l ≤ most + 1 := by
  have h := len_bound (canon_norm l) (norm l).length
  rw [List.take_length] at h
  exact h
theorem canon_pair {l : List Rn} (h : Canon l) {i j : Nat} (hj : j < l.length) (hij : i < j) : l[i].2 + 1 < l[j].1 := List.pairwise_iff_getElem.1 h.2 i j (by omega) hj hij
theorem canon_at {l : List Rn} (h : Canon l) {i : Nat} (hi : i < l.length) : Ok l[i] := h.1 _ (List.getElem_mem hi)
theorem head_least {r : Rn} {l : List Rn} (h : Canon (r :: l)) {n : Int} (k : Mem n (r :: l)) : r.1 ≤ n := by
  rcases mem_cons.1 k with k | k
  · exact k.1
  · have := canon_ge h k
    have := (canon_cons.1 h).1.2.1
    omega
theorem take_has (s : List Rn) (k n : Int) : Has (minus s [(k, k)]) n ↔ Has s n ∧ n ≠ k := by
  rw [has_minus, has_one]
  constructor
  · rintro ⟨a, b⟩; exact ⟨a, fun e => b ⟨a.1, a.2.1, e⟩⟩
  · rintro ⟨a, b⟩; exact ⟨a, fun e => b e.2.2⟩
theorem count_nil : count [] = 0 := rfl
/-- One number taken away is one less. -/
theorem take_count {s : List Rn} {k : Int} (h : Has s k) : count (minus s [(k, k)]) = count s - 1 := by
  have h1 := count_both (minus s [(k, k)]) [(k, k)]
  have e1 : union (minus s [(k, k)]) [(k, k)] = norm s := eq_of_has (canon_union _ _) (canon_norm _) fun n => by
    rw [has_union, take_has, has_one, has_norm]
    constructor
    · rintro (a | ⟨_, _, rfl⟩)
      · exact a.1
      · exact h
    · intro a
      by_cases e : n = k
      · exact .inr ⟨a.1, a.2.1, e⟩
      · exact .inl ⟨a, e⟩
  have e2 : meet (minus s [(k, k)]) [(k, k)] = [] := eq_of_has (canon_meet _ _) canon_nil fun n => by
    rw [has_meet, take_has, has_one]
    constructor
    · rintro ⟨⟨_, a⟩, _, _, b⟩; exact absurd b a
    · rintro ⟨_, _, a⟩; exact absurd a (mem_nil _)
  have e3 : count [(k, k)] = 1 := by
    unfold count
    rw [norm_same (canon_one ⟨h.1, Int.le_refl _, h.2.1⟩), len_cons]
    show k - k + 1 + 0 = 1
    omega
  rw [e1, e2, count_nil, e3] at h1
  have : count (norm s) = count s := by unfold count; rw [norm_same (canon_norm s)]
  omega
theorem count_zero {s : List Rn} (h : Canon s) (e : count s = 0) : s = [] := by
  cases s with
  | nil => rfl
  | cons r l =>
    exfalso
    unfold count at e
    rw [norm_same h, len_cons] at e
    have h1 := (canon_cons.1 h).1.2.1
    have h2 := (canon_cons.1 h).2.2
    have := count_range l
    unfold count at this
    rw [norm_same h2] at this
    omega
theorem count_norm (l : List Rn) : count (norm l) = count l := by unfold count; rw [norm_same (canon_norm l)]
end Rs
end Go.Proofs.Ytaekcmpeglagnaa
