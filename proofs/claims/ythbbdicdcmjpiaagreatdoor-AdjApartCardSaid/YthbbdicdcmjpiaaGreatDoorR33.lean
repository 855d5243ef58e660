/-
  Neighbours that are the same, once: from the left. Plain. It proves no statement by itself.
-/
import Derived.Test.YthbbdicdcmjpiaaGreatDoorR14
namespace Go.Proofs.YthbbdicdcmjpiaaGreatDoor
set_option linter.unusedSimpArgs false
set_option linter.unusedVariables false
namespace Eg
end Eg
end Go.Proofs.YthbbdicdcmjpiaaGreatDoor

/-
  A pair put into a list, from the left. Plain. It proves no statement by itself.
-/
namespace Go.Proofs.YthbbdicdcmjpiaaGreatDoor
set_option linter.unusedSimpArgs false
set_option linter.unusedVariables false
namespace Eg
/-- One element more: what is out so far, and whether p is in it. -/
def pstep (p : Pr) (s : List Pr × Bool) (q : Pr) : List Pr × Bool := if (!s.2 && less p q) = true then (s.1 ++ [p, q], true) else (s.1 ++ [q], s.2)
def pend (p : Pr) (s : List Pr × Bool) : List Pr := if s.2 then s.1 else s.1 ++ [p]
theorem pfold_done (p : Pr) : ∀ (l o : List Pr), l.foldl (pstep p) (o, true) = (o ++ l, true)
  | [], o => by simp
  | q :: l, o => by
    rw [List.foldl_cons, show pstep p (o, true) q = (o ++ [q], true) from rfl, pfold_done p l, List.append_assoc]
    rfl
theorem pstep_len (p : Pr) (s : List Pr × Bool) (q : Pr) : (pstep p s q).1.length ≤ s.1.length + 2 := by unfold pstep; split <;> simp
theorem pfold_len (p : Pr) : ∀ (l : List Pr) (s : List Pr × Bool), (l.foldl (pstep p) s).1.length ≤ s.1.length + 2 * l.length
  | [], s => by simp
  | q :: l, s => by
    have h1 := pfold_len p l (pstep p s q)
    have h2 := pstep_len p s q
    rw [List.foldl_cons, List.length_cons]
    omega
end Eg
end Go.Proofs.YthbbdicdcmjpiaaGreatDoor
