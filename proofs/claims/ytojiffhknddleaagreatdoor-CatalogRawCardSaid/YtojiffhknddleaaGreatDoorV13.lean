/-
  The numbers of runs, one by one. No program in sight. It proves no statement by itself.
-/
import Derived.Test.YtojiffhknddleaaGreatDoorV07
namespace Go.Proofs.YtojiffhknddleaaGreatDoor
set_option linter.unusedSimpArgs false
set_option linter.unusedVariables false

namespace Rs
/-- A run's numbers. -/
def elemsR (r : Rn) : List Int := (List.range (r.2 - r.1 + 1).toNat).map fun (i : Nat) => r.1 + (i : Int)
/-- A list's numbers. -/
def elems (l : List Rn) : List Int := l.flatMap elemsR
theorem elemsR_len (r : Rn) : (elemsR r).length = (r.2 - r.1 + 1).toNat := by simp [elemsR]
theorem elems_take (l : List Rn) (k : Nat) (hk : k < l.length) : elems (l.take (k + 1)) = elems (l.take k) ++ elemsR l[k] := by
  unfold elems
  rw [List.take_succ_eq_append_getElem hk, List.flatMap_append]
  simp
theorem elemsR_take (r : Rn) (j : Nat) (hj : j < (r.2 - r.1 + 1).toNat) : (elemsR r).take (j + 1) = (elemsR r).take j ++ [r.1 + (j : Int)] := by
  rw [List.take_succ_eq_append_getElem (by rw [elemsR_len]; exact hj)]
  simp [elemsR]
theorem elems_prefix (l : List Rn) (k : Nat) (hk : k < l.length) (j : Nat) : elems (l.take k) ++ (elemsR l[k]).take j <+: elems l := by
  have e : elems l = elems (l.take (k + 1)) ++ elems (l.drop (k + 1)) := by
    unfold elems
    rw [← List.flatMap_append, List.take_append_drop]
  rw [e, elems_take l k hk]
  exact ((List.prefix_append_right_inj _).2 (List.take_prefix j _)).trans (List.prefix_append _ _)
theorem elems_nil {l : List Rn} (h : Canon l) (e : elems l = []) : l = [] := by
  cases l with
  | nil => rfl
  | cons r l =>
    exfalso
    obtain ⟨_, r1, _⟩ := h.1 r (List.mem_cons_self ..)
    have := congrArg List.length e
    unfold elems at this
    rw [List.flatMap_cons, List.length_append, elemsR_len] at this
    simp at this
    omega
theorem elems_head {r : Rn} {l : List Rn} (h : Canon (r :: l)) : ∃ t, elems (r :: l) = r.1 :: t := by
  obtain ⟨_, r1, _⟩ := h.1 r (List.mem_cons_self ..)
  obtain ⟨n, hn⟩ : ∃ n, (r.2 - r.1 + 1).toNat = n + 1 := ⟨(r.2 - r.1 + 1).toNat - 1, by omega⟩
  refine ⟨((List.range n).map fun (i : Nat) => r.1 + ((i + 1 : Nat) : Int)) ++ elems l, ?_⟩
  unfold elems
  rw [List.flatMap_cons]
  unfold elemsR
  rw [hn, List.range_succ_eq_map]
  simp
end Rs
end Go.Proofs.YtojiffhknddleaaGreatDoor
