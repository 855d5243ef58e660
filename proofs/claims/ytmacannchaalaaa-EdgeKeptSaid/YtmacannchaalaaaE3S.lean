/-
  Rows of pairs, and slices.SortFunc over Cmp on them. It proves no statement by itself.
-/
import Derived.Test.YtmacannchaalaaaE3C
import Derived.Test.YtmacannchaalaaaE3p
namespace Go.Proofs.Ytmacannchaalaaa
open Go.RowKit Go.Sort Go.Shelf Go.Lib
set_option linter.unusedSimpArgs false
set_option linter.unusedVariables false

theorem flat_get (l : List Pr) (j : Nat) (h : j < l.length * 2) : (pv l)[j]? = some (flatK encP 2 l.toArray)[j]! := by
  rw [get_flatK _ _ _ _ (by simpa using h)]
  have hk : j / 2 < l.length := by omega
  have e : (l.toArray)[j / 2]! = l[j / 2] := by simp [hk]
  rw [e]
  have hj : j = 2 * (j / 2) ∨ j = 2 * (j / 2) + 1 := by omega
  rcases hj with hj | hj
  · have m : j % 2 = 0 := by omega
    rw [m]
    conv => lhs; rw [hj]
    rw [pv_get0 l _ hk]
    rfl
  · have m : j % 2 = 1 := by omega
    rw [m]
    conv => lhs; rw [hj]
    rw [pv_get1 l _ hk]
    rfl

section
variable {F : Asn} {w : World} {R : Ending → World → Prop} {g c : Nat} {l : List Pr}
theorem row_holds (H : Sat (Row 25 2 (.slice (some ⟨g, 0, none⟩) l.length c) l.length (pv l) * F) w) : g < w.heap.size ∧ HoldsK encP 2 w g 0 l.toArray := by
  obtain ⟨hl, ⟨h0, _⟩ | ⟨g', cap, cur, e1, e2, e3, e4, e5, h⟩⟩ := sat_row.1 H
  · cases h0
  · cases e1
    refine ⟨h.left.lt, fun j hj => ⟨?_, Sat.free h.left.at _⟩⟩
    have hj' : j < l.length * 2 := by simpa using hj
    rw [Nat.zero_add, Sat.read h.left.at j, ← Array.getElem?_toList, ← List.getElem?_take_of_lt hj', e5, flat_get l j hj']
    rfl
theorem sorted_row {n : Nat} {os : Array Obj} {l' : List Pr} (hs : l'.length = l.length) (H : Sat (Row 25 2 (.slice (some ⟨g, 0, none⟩) l.length c) l.length (pv l) * F) w) :
    Sat (Row 25 2 (.slice (some ⟨g, 0, none⟩) l.length c) l.length (pv l') * F) (sortWorldK encP 2 w g 0 n l'.toArray os) ∧ Io w (sortWorldK encP 2 w g 0 n l'.toArray os) := by
  obtain ⟨hl, ⟨h0, _⟩ | ⟨g', cap, cur, e1, e2, e3, e4, e5, h⟩⟩ := sat_row.1 H
  · cases h0
  · cases e1
    have hb := h.left.at
    have hsz : (sortWorldK encP 2 w g 0 n l'.toArray os).heap.size = w.heap.size + os.size := by simp [sortWorldK, putRowK, putRow, mapBlock, ahead]
    refine ⟨sat_row.2 ⟨by rw [pv_length, hs], .inr ⟨g, c, putCells id 0 (flatK encP 2 l'.toArray) cur, rfl, e2, e3, by simpa [putCells] using e4, ?_, h.set ?_ ?_⟩⟩, ⟨rfl, rfl, rfl, by omega⟩⟩
    · apply List.ext_getElem?
      intro j
      by_cases hj : j < l.length * 2
      · have hc : j < cur.size := by rw [e4]; have := Nat.mul_le_mul_right 2 e2; omega
        rw [List.getElem?_take_of_lt hj, Array.getElem?_toList]
        rw [flat_get l' j (by omega)]
        simp [putCells, hc, hs]
        omega
      · rw [List.getElem?_eq_none (by rw [List.length_take]; omega), List.getElem?_eq_none (by rw [pv_length]; omega)]
    · have hlt : g < w.heap.size := h.left.lt
      simp only [sortWorldK, putRowK, putRow, mapBlock, ahead, grow, Array.getElem?_append, Array.size_modify, if_true, Array.getElem?_modify]
      rw [if_pos (show g < (Go.Sort.ahead w n).heap.size from hlt)]
      show Option.map _ w.heap[g]? = _
      rw [hb]
      rfl
    · intro k hk hne
      simp only [sortWorldK, putRowK, putRow, mapBlock, ahead, grow, Array.getElem?_append, Array.size_modify, Array.getElem?_modify, if_neg (Ne.symm hne)]
      rw [if_pos (show k < (Go.Sort.ahead w n).heap.size from hk)]
      rfl

/-- slices.SortFunc over Cmp. -/
theorem sortfunc_any (H : Sat (Row 25 2 (.slice (some ⟨g, 0, none⟩) l.length c) l.length (pv l) * F) w) (hl : l.length ≤ 1000000)
    (h : ∀ l' w', (∀ x, x ∈ l' ↔ x ∈ l) → Eg.Weak l' → l'.length = l.length → Sat (Row 25 2 (.slice (some ⟨g, 0, none⟩) l.length c) l.length (pv l') * F) w' → Io w w' → R (.returned (.tuple #[])) w') :
    Calls Try.prog 40 #[.slice (some ⟨g, 0, none⟩) l.length c, .func (.func 18) #[] #[]] w R := by
  obtain ⟨lg, hH⟩ := row_holds H
  have eg : ∀ args w, (callFunc 18 args).run Try.prog w = .ok (.enter 18 args) w := enters_of Try.func18 (by kernel_rfl) rfl
  have hcon := AnyQ.slices_SortFunc Try.sortPairs 2 Try.isAgg25 Try.sizeOf25 encP (fun _ => rfl) (fun x v hv => by simp [encP] at hv; rcases hv with rfl | rfl <;> rfl) cmpP swo_less 18 #[] g 0 c l.toArray w eg (cmp_lays g 0 l.toArray.size w) hH lg (by simp; omega)
  change Calls Try.prog 40 _ _ _ at hcon
  rw [List.size_toArray] at hcon
  refine hcon.mono ?_
  rintro e w' ⟨rfl, d', n, os, hp, hs, rfl⟩
  obtain ⟨p1, _, p3⟩ := hp
  have hsz : d'.toList.length = l.length := by simpa using p1
  have hperm : d'.toList.Perm l := by
    have : (d'.extract 0 l.length).toList = d'.toList := by rw [Array.toList_extract]; simp only [List.extract, List.drop_zero, Nat.sub_zero]; exact List.take_of_length_le (by omega)
    have e2 : (l.toArray.extract 0 l.length).toList = l := by simp
    rw [this, e2] at p3
    exact p3
  have hw : Eg.Weak d'.toList := by
    unfold Eg.Weak
    rw [List.pairwise_iff_getElem]
    intro i j hi hj hij
    have := hs i j (Nat.zero_le _) hij (by omega)
    rw [lt_less, getElem!_pos d' j (by simpa using hj), getElem!_pos d' i (by simpa using hi)] at this
    simpa using this
  obtain ⟨s1, s2⟩ := sorted_row (n := n) (os := os) hsz H
  exact h d'.toList _ (fun x => hperm.mem_iff) hw hsz s1 s2
end
end Go.Proofs.Ytmacannchaalaaa
