/-
  Branches sorted by their names: cmp.Compare at strings, the order, slices.SortFunc. It proves no statement by itself.
-/
import Derived.Test.YtabpgejjnphfcaaGreatQ15
import Derived.Test.YtabpgejjnphfcaaGreatQ16
import Derived.Test.YtabpgejjnphfcaaGreatQ18
import Derived.Test.YtabpgejjnphfcaaGreatQ20
namespace Go.Proofs.YtabpgejjnphfcaaGreat
open Go.RowKit Go.Lib Go.Shelf
open Md (Nm St)
set_option linter.unusedSimpArgs false
set_option linter.unusedVariables false
set_option linter.unusedSectionVars false
/-- cmp.Compare at strings. -/
def scmp (x y : Nm) : Int := if Md.nlt x y = true then -1 else if Md.nlt y x = true then 1 else 0
section
variable {F : Asn} {w : World} {R : Ending → World → Prop}
theorem isNaNs_any (x : Nm) (h : R (.returned (.bool false)) w) : Calls Tryz.prog 94 #[.string x] w R := by
  have e : (x.toList == x.toList) = true := by simp
  go_enter Tryz.func94, Tryz.ntmps94
  go_wp2_with fail
  exact h
set_option maxRecDepth 100000 in
theorem compares_any (x y : Nm) (h : R (.returned (.int .i64 (scmp x y))) w) : Calls Tryz.prog 65 #[.string x, .string y] w R := by
  have HH := Lib.hid h
  clear h
  unfold scmp at HH
  cases h1 : Md.nlt x y with
  | true =>
    rw [h1, if_pos rfl] at HH
    have e1 : Op.bytesLess x.toList y.toList = true := h1
    go_enter Tryz.func65, Tryz.ntmps65
    go_wp2_with (go_at_call 94; with_reducible refine isNaNs_any _ ?_)
    exact HH.out
  | false =>
    have e1 : Op.bytesLess x.toList y.toList = false := h1
    cases h2 : Md.nlt y x with
    | true =>
      rw [h1, h2, if_neg (by simp), if_pos rfl] at HH
      have e2 : (x.toList == y.toList) = false := by
        rw [beq_eq_false_iff_ne]
        intro e
        have := nm_ext e
        subst this
        rw [nlt_irrefl] at h2
        cases h2
      have e3 : ¬ x.toList = y.toList := by simpa using e2
      clear h1 h2
      go_enter Tryz.func65, Tryz.ntmps65
      go_wp2_with (go_at_call 94; with_reducible refine isNaNs_any _ ?_)
      exact HH.out
    | false =>
      rw [h1, h2, if_neg (by simp), if_neg (by simp)] at HH
      obtain rfl := nlt_total h1 h2
      clear h1 h2
      go_enter Tryz.func65, Tryz.ntmps65
      go_wp2_with (go_at_call 94; with_reducible refine isNaNs_any _ ?_)
      exact HH.out
end
end Go.Proofs.YtabpgejjnphfcaaGreat

/-
  Branches sorted by their names: slices.SortFunc over the closure. It proves no statement by itself.
-/
namespace Go.Proofs.YtabpgejjnphfcaaGreat
open Go.RowKit Go.Sort Go.Shelf Go.Lib
open Md (Nm St)
set_option linter.unusedSimpArgs false
set_option linter.unusedVariables false
set_option linter.unusedSectionVars false
/-! ### Rows of records, for the sort. -/
section
variable {α : Type} [Inhabited α] {enc : α → List Value} {sz : Nat} {e : TypeId} {F : Asn} {w : World} {g c : Nat} {l : List α}
theorem flat_getG (he : Enc enc sz) (h0 : 0 < sz) (l : List α) (j : Nat) (h : j < l.length * sz) : (cellsOf enc l)[j]? = some (flatK enc sz l.toArray)[j]! := by
  rw [get_flatK _ _ _ _ (by simpa using h)]
  have hk : j / sz < l.length := Nat.div_lt_of_lt_mul (by rw [Nat.mul_comm]; exact h)
  have hr : j % sz < sz := Nat.mod_lt _ h0
  have hj : j / sz * sz + j % sz = j := by rw [Nat.mul_comm]; exact Nat.div_add_mod _ _
  have e1 : (l.toArray)[j / sz]! = l[j / sz] := by simp [hk]
  have := cellsOf_get he l (j / sz) hk (j % sz) hr
  rw [hj] at this
  rw [this, e1]
  have hl : j % sz < (enc l[j / sz]).length := by rw [he.len]; exact hr
  simp [hl]
theorem row_holdsG (he : Enc enc sz) (h0 : 0 < sz) (H : Sat (RowOf e sz enc (.slice (some ⟨g, 0, none⟩) l.length c) l * F) w) : g < w.heap.size ∧ HoldsK enc sz w g 0 l.toArray := by
  obtain ⟨hl, ⟨h0', _⟩ | ⟨g', cap, cur, e1, e2, e3, e4, e5, h⟩⟩ := sat_row.1 H
  · cases h0'
  · cases e1
    refine ⟨h.left.lt, fun j hj => ⟨?_, Sat.free h.left.at _⟩⟩
    have hj' : j < l.length * sz := by simpa using hj
    rw [Nat.zero_add, Sat.read h.left.at j, ← Array.getElem?_toList, ← List.getElem?_take_of_lt hj', e5, flat_getG he h0 l j hj']
    rfl
theorem sorted_rowG (he : Enc enc sz) (h0 : 0 < sz) {n : Nat} {os : Array Obj} {l' : List α} (hs : l'.length = l.length) (H : Sat (RowOf e sz enc (.slice (some ⟨g, 0, none⟩) l.length c) l * F) w) :
    Sat (RowOf e sz enc (.slice (some ⟨g, 0, none⟩) l.length c) l' * F) (sortWorldK enc sz w g 0 n l'.toArray os) ∧ Io w (sortWorldK enc sz w g 0 n l'.toArray os) := by
  obtain ⟨hl, ⟨h0', _⟩ | ⟨g', cap, cur, e1, e2, e3, e4, e5, h⟩⟩ := sat_row.1 H
  · cases h0'
  · cases e1
    have hb := h.left.at
    have hsz : (sortWorldK enc sz w g 0 n l'.toArray os).heap.size = w.heap.size + os.size := by simp [sortWorldK, putRowK, putRow, mapBlock, ahead]
    have hc := cellsOf_length he l'
    refine ⟨sat_row.2 ⟨hc, .inr ⟨g, c, putCells id 0 (flatK enc sz l'.toArray) cur, by rw [hs], by omega, e3, by simpa [putCells] using e4, ?_, h.set ?_ ?_⟩⟩, ⟨rfl, rfl, rfl, by omega⟩⟩
    · apply List.ext_getElem?
      intro j
      by_cases hj : j < l.length * sz
      · have hcu : j < cur.size := by rw [e4]; have := Nat.mul_le_mul_right sz e2; omega
        rw [hs, List.getElem?_take_of_lt hj, Array.getElem?_toList]
        rw [flat_getG he h0 l' j (by rw [hs]; exact hj)]
        simp [putCells, hcu, hs]
        omega
      · rw [hs, List.getElem?_eq_none (by rw [List.length_take]; omega), List.getElem?_eq_none (by rw [hc, hs]; omega)]
    · have hlt : g < w.heap.size := h.left.lt
      simp only [sortWorldK, putRowK, putRow, mapBlock, ahead, grow, Array.getElem?_append, Array.size_modify, if_true, Array.getElem?_modify]
      rw [if_pos (show g < (Go.Sort.ahead w n).heap.size from hlt)]
      show Option.map _ w.heap[g]? = _
      rw [hb]
      rfl
    · intro k hk hne
      simp only [sortWorldK, putRowK, putRow, mapBlock, ahead, grow, Array.getElem?_append, Array.size_modify, Array.getElem?_modify, if_neg (Ne.symm hne)]
      rw [if_pos (show k < (Go.Sort.ahead w n).heap.size from hk)]
      rfl
end
instance : Inhabited Md.Br := ⟨⟨⟨#[]⟩, 0⟩⟩
def cmpB (a b : Md.Br) : Int := scmp a.name b.name
theorem scmp_lt (x y : Nm) : scmp x y < 0 ↔ Md.nlt x y = true := by
  unfold scmp
  split
  · simp_all
  · split <;> simp_all
theorem lt_brs (a b : Md.Br) : ltOf cmpB a b = Md.nlt a.name b.name := by
  unfold ltOf cmpB
  rw [Bool.eq_iff_iff, decide_eq_true_eq]
  exact scmp_lt _ _
theorem swo_brs : Go.Sort.SWO (ltOf cmpB) where
  irrefl x := by rw [lt_brs]; exact nlt_irrefl _
  trans x y z h1 h2 := by rw [lt_brs] at *; exact nlt_trans h1 h2
  ntrans x y z h1 h2 := by rw [lt_brs] at *; exact nlt_ntrans h1 h2
theorem alloc2_grow (W : World) (A B : Obj) : (W.alloc A).alloc B = Go.Sort.grow (W.drewN 0) #[A, B] := by
  rw [Go.Sort.alloc_eq_grow, Go.Sort.alloc_eq_grow]
  show Go.Sort.grow (Go.Sort.grow W #[A]) #[B] = _
  rw [Go.Sort.grow_grow]
  rfl
set_option maxRecDepth 100000 in
theorem cmpB_world (a b : Md.Br) (W : World) : Calls Tryz.prog 64 #[.agg #[.string a.name, .int .i64 a.head], .agg #[.string b.name, .int .i64 b.head]] W fun e w' => e = .returned (.int .i64 (cmpB a b)) ∧ ∃ q os', w' = Go.Sort.grow (W.drewN q) os' := by
  obtain ⟨an, ah⟩ := a
  obtain ⟨bn, bh⟩ := b
  have WW := Lib.hid (alloc2_grow W (.cells #[.string an, .int .i64 ah] 55) (.cells #[.string bn, .int .i64 bh] 55))
  unfold cmpB
  simp only
  go_enter Tryz.func64, Tryz.ntmps64
  go_wp2_with (go_at_call 65; with_reducible refine compares_any an bn ?_)
  go_ret
  exact ⟨rfl, 0, _, WW.out⟩
theorem cmpB_lays (blk off size : Nat) (w : World) : CmpLays Tryz.prog 64 #[] encBr 2 cmpB blk off size w := fun _ _ _ _ x y => cmpB_world x y _
section
variable {F : Asn} {w : World} {R : Ending → World → Prop} {g c : Nat} {l : List Md.Br}
set_option maxHeartbeats 1000000 in
theorem sortbrs_any (H : Sat (RowB (.slice (some ⟨g, 0, none⟩) l.length c) l * F) w) (hl : l.length ≤ 1000000)
    (h : ∀ l' w', l'.Perm l → l'.Pairwise (fun a b => Md.nlt b.name a.name = false) → Sat (RowB (.slice (some ⟨g, 0, none⟩) l.length c) l' * F) w' → Io w w' → R (.returned (.tuple #[])) w') :
    Calls Tryz.prog 63 #[.slice (some ⟨g, 0, none⟩) l.length c, .func (.func 64) #[] #[]] w R := by
  obtain ⟨lg, hH⟩ := row_holdsG encBr_ok (by omega) H
  have eg : ∀ args w, (callFunc 64 args).run Tryz.prog w = .ok (.enter 64 args) w := enters_of Tryz.func64 (by kernel_rfl) rfl
  have hcon := AnyQ.slices_SortFunc Tryz.sortBrs 2 Tryz.isAgg55 Tryz.sizeOf55 encBr (fun _ => rfl) encBr_ok.one cmpB swo_brs 64 #[] g 0 c l.toArray w eg (cmpB_lays g 0 l.toArray.size w) hH lg (by simp; omega)
  change Calls Tryz.prog 63 _ _ _ at hcon
  rw [List.size_toArray] at hcon
  refine hcon.mono ?_
  rintro e w' ⟨rfl, d', n, os, hp, hs, rfl⟩
  obtain ⟨p1, _, p3⟩ := hp
  have hsz : d'.toList.length = l.length := by simpa using p1
  have hperm : d'.toList.Perm l := by
    have : (d'.extract 0 l.length).toList = d'.toList := by rw [Array.toList_extract]; simp only [List.extract, List.drop_zero, Nat.sub_zero]; exact List.take_of_length_le (by omega)
    have e2 : (l.toArray.extract 0 l.length).toList = l := by simp
    rw [this, e2] at p3
    exact p3
  have hw : d'.toList.Pairwise (fun a b => Md.nlt b.name a.name = false) := by
    rw [List.pairwise_iff_getElem]
    intro i j hi hj hij
    have := hs i j (Nat.zero_le _) hij (by omega)
    rw [lt_brs, getElem!_pos d' j (by simpa using hj), getElem!_pos d' i (by simpa using hi)] at this
    simpa using this
  obtain ⟨s1, s2⟩ := sorted_rowG (n := n) (os := os) encBr_ok (by omega) hsz H
  exact h d'.toList _ hperm hw s1 s2
theorem sortbrs_none (a : Option Addr) (c : Nat) (fv : Value) (h : R (.returned (.tuple #[])) w) : Calls Tryz.prog 63 #[.slice a 0 c, fv] w R := by
  have hcon := AnyF.slices_SortFunc_none Tryz.sortBrs a c fv w
  change Calls Tryz.prog 63 _ _ _ at hcon
  refine hcon.mono ?_
  rintro e w' ⟨rfl, rfl⟩
  exact h
end
end Go.Proofs.YtabpgejjnphfcaaGreat
