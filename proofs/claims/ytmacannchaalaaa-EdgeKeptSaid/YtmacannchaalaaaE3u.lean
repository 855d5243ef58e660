/-
  Neighbours that are the same, once: from the left. Plain. It proves no statement by itself.
-/
import Derived.Test.YtmacannchaalaaaE3b
namespace Go.Proofs.Ytmacannchaalaaa
set_option linter.unusedSimpArgs false
set_option linter.unusedVariables false
namespace Eg
theorem uniq_cons (x : Pr) (l : List Pr) : uniq (x :: l) = match uniq l with | [] => [x] | y :: m => if x = y then y :: m else x :: y :: m := rfl
theorem uniq_ne {x : Pr} {l : List Pr} : uniq (x :: l) ≠ [] := by
  rw [uniq_cons]
  split
  · simp
  · split <;> simp
/-- One more behind y. -/
theorem uniq_snoc (y x : Pr) : ∀ m : List Pr, uniq (m ++ [y, x]) = if y = x then uniq (m ++ [y]) else uniq (m ++ [y]) ++ [x]
  | [] => by
    by_cases e : y = x
    · subst e; simp [uniq]
    · simp [uniq, e]
  | z :: m => by
    have ih := uniq_snoc y x m
    rw [List.cons_append, List.cons_append, uniq_cons, uniq_cons, ih]
    by_cases e : y = x
    · rw [if_pos e, if_pos e]
    · rw [if_neg e, if_neg e]
      cases hu : uniq (m ++ [y]) with
      | nil => cases m <;> exact absurd hu uniq_ne
      | cons a b =>
        simp only [List.cons_append]
        by_cases k : z = a
        · rw [if_pos k, if_pos k]; rfl
        · rw [if_neg k, if_neg k]; rfl
theorem uniq_one (x : Pr) : uniq [x] = [x] := rfl
theorem uniq_take {l : List Pr} {k : Nat} (h0 : 0 < k) (hk : k < l.length) : uniq (l.take (k + 1)) = if l[k - 1] = l[k] then uniq (l.take k) else uniq (l.take k) ++ [l[k]] := by
  have e1 : l.take (k + 1) = l.take (k - 1) ++ [l[k - 1], l[k]] := by
    rw [List.take_succ_eq_append_getElem hk]
    have : l.take k = l.take (k - 1) ++ [l[k - 1]] := by
      have := List.take_succ_eq_append_getElem (l := l) (i := k - 1) (by omega)
      rwa [show k - 1 + 1 = k from by omega] at this
    rw [this, List.append_assoc]
    rfl
  have e2 : l.take k = l.take (k - 1) ++ [l[k - 1]] := by
    have := List.take_succ_eq_append_getElem (l := l) (i := k - 1) (by omega)
    rwa [show k - 1 + 1 = k from by omega] at this
  rw [e1, e2, uniq_snoc]
theorem uniq_len : ∀ l : List Pr, (uniq l).length ≤ l.length
  | [] => Nat.le_refl _
  | x :: l => by
    have := uniq_len l
    rw [uniq_cons]
    split
    · simp
    · rename_i y m h
      rw [h] at this
      split <;> simp at this ⊢ <;> omega
end Eg
end Go.Proofs.Ytmacannchaalaaa
