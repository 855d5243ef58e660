/-
  Runs put in order of their beginnings: the closure that compares, and slices.SortFunc over it. It proves no statement by itself.
-/
import Derived.Test.YtojiffhknddleaaGreatDoorV09
import Derived.Test.YtojiffhknddleaaGreatDoorOShelf
import Derived.Shelf.SlSortCmp.WholeK
import Derived.Shelf.SlSortCmp.NoneTotal
namespace Go.Proofs.YtojiffhknddleaaGreatDoor
open Go.RowKit Go.Sort Go.Shelf Go.Lib
set_option linter.unusedSimpArgs false
set_option linter.unusedVariables false

/-- What the closure says. -/
def cmpR (a b : Rn) : Int := Lib.compareInt a.1 b.1
theorem compareInt_iff (x y : Int) : (Lib.compareInt x y < 0 ↔ x < y) ∧ (Lib.compareInt x y = 0 ↔ x = y) ∧ (0 < Lib.compareInt x y ↔ y < x) := by
  unfold Lib.compareInt
  refine ⟨?_, ?_, ?_⟩ <;> (split <;> (try split) <;> simp <;> omega)
section
variable {F : Asn} {w : World} {R : Ending → World → Prop}
theorem compare_any (x y : Int) (h : R (.returned (.int .i64 (Lib.compareInt x y))) w) : Calls Tryz.prog 133 #[.int .i64 x, .int .i64 y] w R := by
  have hcon := AnyG.cmp_Compare_int Tryz.cmpIntF x y w
  change Calls Tryz.prog 133 _ _ _ at hcon
  refine hcon.mono ?_
  rintro e w' ⟨rfl, rfl⟩
  exact h
theorem alloc2_grow (W : World) (A B : Obj) : (W.alloc A).alloc B = Go.Sort.grow (W.drewN 0) #[A, B] := by
  rw [Go.Sort.alloc_eq_grow, Go.Sort.alloc_eq_grow, Go.Sort.grow_grow]
  rfl
set_option maxRecDepth 100000 in
set_option maxHeartbeats 1000000 in
theorem cmpr_world (a b : Rn) (W : World) : Calls Tryz.prog 132 #[.agg #[.int .i64 a.1, .int .i64 a.2], .agg #[.int .i64 b.1, .int .i64 b.2]] W fun e w' => e = .returned (.int .i64 (cmpR a b)) ∧ ∃ q os', w' = Go.Sort.grow (W.drewN q) os' := by
  obtain ⟨z, hz⟩ : ∃ z, Hid (z = Lib.compareInt a.1 b.1) := ⟨_, Lib.hid rfl⟩
  have e : cmpR a b = z := hz.out.symm
  rw [e]
  clear e
  obtain ⟨a1, a2⟩ := a
  obtain ⟨b1, b2⟩ := b
  have WW := Lib.hid (alloc2_grow W (.cells #[.int .i64 a1, .int .i64 a2] 107) (.cells #[.int .i64 b1, .int .i64 b2] 107))
  go_enter Tryz.func132, Tryz.ntmps132
  go_wp2_with (go_at_call 133; with_reducible refine compare_any a1 b1 ?_; rw [← hz.out])
  go_ret
  exact ⟨rfl, 0, _, WW.out⟩
theorem ltr_iff (a b : Rn) : ltOf cmpR a b = decide (a.1 < b.1) := by
  unfold ltOf
  rw [decide_eq_decide]
  exact (compareInt_iff a.1 b.1).1
theorem swo_runs : Go.Sort.SWO (ltOf cmpR) where
  irrefl x := by rw [ltr_iff]; simp
  trans x y z h1 h2 := by rw [ltr_iff] at *; simp at *; omega
  ntrans x y z h1 h2 := by rw [ltr_iff] at *; simp at *; omega
theorem cmpr_lays (blk off size : Nat) (w : World) : CmpLays Tryz.prog 132 #[] encR 2 cmpR blk off size w := fun _ _ _ _ x y => cmpr_world x y _
end
theorem flat_getR (l : List Rn) (j : Nat) (h : j < l.length * 2) : (cellsOf encR l)[j]? = some (flatK encR 2 l.toArray)[j]! := by
  rw [get_flatK _ _ _ _ (by simpa using h)]
  have hk : j / 2 < l.length := by omega
  have e : (l.toArray)[j / 2]! = l[j / 2] := by simp [hk]
  rw [e]
  have hg := cellsOf_get encR_ok l (j / 2) hk (j % 2) (by omega)
  have hj : j / 2 * 2 + j % 2 = j := by omega
  rw [hj] at hg
  rw [hg]
  have hm : j % 2 < (encR l[j / 2]).length := by rw [encR_ok.len]; omega
  rw [List.getElem?_eq_getElem hm, getElem!_pos (encR l[j / 2]) _ hm]
section
variable {F : Asn} {w : World} {R : Ending → World → Prop} {g c : Nat} {l : List Rn}
theorem row_holdsR (H : Sat (Row 107 2 (.slice (some ⟨g, 0, none⟩) l.length c) l.length (cellsOf encR l) * F) w) : g < w.heap.size ∧ HoldsK encR 2 w g 0 l.toArray := by
  obtain ⟨hl, ⟨h0, _⟩ | ⟨g', cap, cur, e1, e2, e3, e4, e5, h⟩⟩ := sat_row.1 H
  · cases h0
  · cases e1
    refine ⟨h.left.lt, fun j hj => ⟨?_, Sat.free h.left.at _⟩⟩
    have hj' : j < l.length * 2 := by simpa using hj
    rw [Nat.zero_add, Sat.read h.left.at j, ← Array.getElem?_toList, ← List.getElem?_take_of_lt hj', e5, flat_getR l j hj']
    rfl
theorem sorted_rowR {n : Nat} {os : Array Obj} {l' : List Rn} (hs : l'.length = l.length) (H : Sat (Row 107 2 (.slice (some ⟨g, 0, none⟩) l.length c) l.length (cellsOf encR l) * F) w) :
    Sat (Row 107 2 (.slice (some ⟨g, 0, none⟩) l.length c) l.length (cellsOf encR l') * F) (sortWorldK encR 2 w g 0 n l'.toArray os) ∧ Io w (sortWorldK encR 2 w g 0 n l'.toArray os) := by
  obtain ⟨hl, ⟨h0, _⟩ | ⟨g', cap, cur, e1, e2, e3, e4, e5, h⟩⟩ := sat_row.1 H
  · cases h0
  · cases e1
    have hb := h.left.at
    have hsz : (sortWorldK encR 2 w g 0 n l'.toArray os).heap.size = w.heap.size + os.size := by simp [sortWorldK, putRowK, putRow, mapBlock, ahead]
    refine ⟨sat_row.2 ⟨by rw [cellsOf_length encR_ok, hs], .inr ⟨g, c, putCells id 0 (flatK encR 2 l'.toArray) cur, rfl, e2, e3, by simpa [putCells] using e4, ?_, h.set ?_ ?_⟩⟩, ⟨rfl, rfl, rfl, by omega⟩⟩
    · apply List.ext_getElem?
      intro j
      by_cases hj : j < l.length * 2
      · have hc : j < cur.size := by rw [e4]; have := Nat.mul_le_mul_right 2 e2; omega
        rw [List.getElem?_take_of_lt hj, Array.getElem?_toList]
        rw [flat_getR l' j (by omega)]
        simp [putCells, hc, hs]
        omega
      · rw [List.getElem?_eq_none (by rw [List.length_take]; omega), List.getElem?_eq_none (by rw [cellsOf_length encR_ok]; omega)]
    · have hlt : g < w.heap.size := h.left.lt
      simp only [sortWorldK, putRowK, putRow, mapBlock, ahead, grow, Array.getElem?_append, Array.size_modify, if_true, Array.getElem?_modify]
      rw [if_pos (show g < (Go.Sort.ahead w n).heap.size from hlt)]
      show Option.map _ w.heap[g]? = _
      rw [hb]
      rfl
    · intro k hk hne
      simp only [sortWorldK, putRowK, putRow, mapBlock, ahead, grow, Array.getElem?_append, Array.size_modify, Array.getElem?_modify, if_neg (Ne.symm hne)]
      rw [if_pos (show k < (Go.Sort.ahead w n).heap.size from hk)]
      rfl
/-- slices.SortFunc over the closure. -/
theorem sortruns_any {v : Value} (H : Sat (RowR v l * F) w) (hl : l.length ≤ 1000000)
    (h : ∀ l' w', l'.Perm l → l'.Pairwise (fun a b => a.1 ≤ b.1) → Sat (RowR v l' * F) w' → Io w w' → R (.returned (.tuple #[])) w') :
    Calls Tryz.prog 131 #[v, .func (.func 132) #[] #[]] w R := by
  by_cases h0 : l.length = 0
  · obtain rfl : l = [] := List.eq_nil_of_length_eq_zero h0
    obtain ⟨a, c, rfl, _⟩ := readsR_len (Reads.of_row H hl)
    have hcon := AnyF.slices_SortFunc_none Tryz.sortRuns a c (.func (.func 132) #[] #[]) w
    change Calls Tryz.prog 131 _ _ _ at hcon
    refine hcon.mono ?_
    rintro e w' ⟨rfl, rfl⟩
    exact h [] _ (List.Perm.refl _) List.Pairwise.nil H (Io.refl _)
  · obtain ⟨g, c, rfl⟩ := row_shape H (by omega)
    obtain ⟨lg, hH⟩ := row_holdsR H
    have eg : ∀ args w, (callFunc 132 args).run Tryz.prog w = .ok (.enter 132 args) w := enters_of Tryz.func132 (by kernel_rfl) rfl
    have hcon := AnyQ.slices_SortFunc Tryz.sortRuns 2 Tryz.isAgg107 Tryz.sizeOf107 encR (fun _ => rfl) (fun x v hv => by simp [encR] at hv; rcases hv with rfl | rfl <;> rfl) cmpR swo_runs 132 #[] g 0 c l.toArray w eg (cmpr_lays g 0 l.toArray.size w) hH lg (by simp; omega)
    change Calls Tryz.prog 131 _ _ _ at hcon
    rw [List.size_toArray] at hcon
    refine hcon.mono ?_
    rintro e w' ⟨rfl, d', n, os, hp, hs, rfl⟩
    obtain ⟨p1, _, p3⟩ := hp
    have hsz : d'.toList.length = l.length := by simpa using p1
    have hperm : d'.toList.Perm l := by
      have : (d'.extract 0 l.length).toList = d'.toList := by rw [Array.toList_extract]; simp only [List.extract, List.drop_zero, Nat.sub_zero]; exact List.take_of_length_le (by omega)
      have e2 : (l.toArray.extract 0 l.length).toList = l := by simp
      rw [this, e2] at p3
      exact p3
    have hw : d'.toList.Pairwise (fun a b => a.1 ≤ b.1) := by
      rw [List.pairwise_iff_getElem]
      intro i j hi hj hij
      have := hs i j (Nat.zero_le _) hij (by omega)
      rw [ltr_iff, getElem!_pos d' j (by simpa using hj), getElem!_pos d' i (by simpa using hi)] at this
      simpa using this
    obtain ⟨s1, s2⟩ := sorted_rowR (n := n) (os := os) hsz H
    refine h d'.toList _ hperm hw (s1.of_eq ?_) s2
    unfold RowR RowOf
    rw [hsz]
end
end Go.Proofs.YtojiffhknddleaaGreatDoor
