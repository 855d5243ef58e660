/-
  Neighbours that are the same, once: from the left. Plain. It proves no statement by itself.
-/
import Derived.Test.YthbbdicdcmjpiaaGreatDoorP14
namespace Go.Proofs.YthbbdicdcmjpiaaGreatDoor
set_option linter.unusedSimpArgs false
set_option linter.unusedVariables false
namespace Eg
end Eg
end Go.Proofs.YthbbdicdcmjpiaaGreatDoor

/-
  A pair put into a list, from the left. Plain. It proves no statement by itself.
-/
namespace Go.Proofs.YthbbdicdcmjpiaaGreatDoor
set_option linter.unusedSimpArgs false
set_option linter.unusedVariables false
namespace Eg
/-- One element more: what is out so far, and whether p is in it. -/
def pstep (p : Pr) (s : List Pr × Bool) (q : Pr) : List Pr × Bool := if (!s.2 && less p q) = true then (s.1 ++ [p, q], true) else (s.1 ++ [q], s.2)
def pend (p : Pr) (s : List Pr × Bool) : List Pr := if s.2 then s.1 else s.1 ++ [p]
theorem pfold_done (p : Pr) : ∀ (l o : List Pr), l.foldl (pstep p) (o, true) = (o ++ l, true)
  | [], o => by simp
  | q :: l, o => by
    rw [List.foldl_cons, show pstep p (o, true) q = (o ++ [q], true) from rfl, pfold_done p l, List.append_assoc]
    rfl
theorem pfold_ins (p : Pr) : ∀ (l o : List Pr), pend p (l.foldl (pstep p) (o, false)) = o ++ ins p l
  | [], o => rfl
  | q :: l, o => by
    rw [List.foldl_cons]
    by_cases k : less p q = true
    · rw [show pstep p (o, false) q = (o ++ [p, q], true) from by simp [pstep, k], pfold_done]
      unfold ins
      rw [if_pos k]
      simp [pend]
    · rw [show pstep p (o, false) q = (o ++ [q], false) from by simp [pstep, k], pfold_ins p l]
      conv => rhs; unfold ins
      rw [if_neg k, List.append_assoc]
      rfl
theorem put_fold (l : List Pr) (p : Pr) : put l p = pend p (l.foldl (pstep p) ([], decide (p ∈ l))) := by
  unfold put
  by_cases h : p ∈ l
  · rw [if_pos h, decide_eq_true h, pfold_done]
    rfl
  · rw [if_neg h, decide_eq_false h, pfold_ins]
    rfl
theorem pfold_take (p : Pr) (l : List Pr) (s : List Pr × Bool) (k : Nat) (hk : k < l.length) : (l.take (k + 1)).foldl (pstep p) s = pstep p ((l.take k).foldl (pstep p) s) l[k] := by
  rw [List.take_succ_eq_append_getElem hk, List.foldl_append]
  rfl
theorem pstep_len (p : Pr) (s : List Pr × Bool) (q : Pr) : (pstep p s q).1.length ≤ s.1.length + 2 := by unfold pstep; split <;> simp
theorem pfold_len (p : Pr) : ∀ (l : List Pr) (s : List Pr × Bool), (l.foldl (pstep p) s).1.length ≤ s.1.length + 2 * l.length
  | [], s => by simp
  | q :: l, s => by
    have h1 := pfold_len p l (pstep p s q)
    have h2 := pstep_len p s q
    rw [List.foldl_cons, List.length_cons]
    omega
end Eg
end Go.Proofs.YthbbdicdcmjpiaaGreatDoor
