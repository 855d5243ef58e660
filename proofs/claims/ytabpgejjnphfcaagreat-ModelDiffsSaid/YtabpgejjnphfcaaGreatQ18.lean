/-
  Edges: vertices, pairs made, compared, by their walks. It proves no statement by itself.
-/
import Derived.Test.YtabpgejjnphfcaaGreatQ07
import Derived.Test.YtabpgejjnphfcaaGreatQ17
import Derived.Shelf.SlSortCmp.WholeK
import Derived.Deep.RegionHeld3
namespace Go.Proofs.YtabpgejjnphfcaaGreat
open Go.RowKit
set_option linter.unusedSimpArgs false
set_option linter.unusedVariables false

/-- What Vertex says. -/
def verE (v : Int) : Int := if 0 ≤ v ∧ v < 1048576 then 0 else 30
/-- What Make says. -/
def mkE (u v : Int) : Int := if verE u ≠ 0 ∨ verE v ≠ 0 then 30 else if u = v then 31 else 0
def mkP (u v : Int) : Pr := if mkE u v = 0 then (min u v, max u v) else (0, 0)

section
variable {F : Asn} {w : World} {R : Ending → World → Prop}
theorem vertex_any (v : Int) (h : R (.returned (.int .i64 (verE v))) w) : Calls Tryz.prog 66 #[.int .i64 v] w R := by
  unfold verE at h
  by_cases h0 : v < 0
  · rw [if_neg (by omega)] at h
    have hd : decide (v < 0) = true := by simpa using h0
    go_enter Tryz.func66, Tryz.ntmps66
    go_wp2_with fail
    exact h
  · have hd : decide (v < 0) = false := by simpa using h0
    by_cases h1 : v < 1048576
    · rw [if_pos ⟨by omega, h1⟩] at h
      go_enter Tryz.func66, Tryz.ntmps66
      go_wp2_with fail
      exact h
    · rw [if_neg (by omega)] at h
      have h1' : 1048576 ≤ v := by omega
      go_enter Tryz.func66, Tryz.ntmps66
      go_wp2_with fail
      exact h
theorem rvertex_any (v : Int) (h : R (.returned (.bool (decide (verE v = 0)))) w) : Calls Tryz.prog 87 #[.int .i64 v] w R := by
  unfold verE at h
  by_cases h0 : v < 0
  · rw [if_neg (by omega)] at h
    have hd : decide (v < 0) = true := by simpa using h0
    go_enter Tryz.func87, Tryz.ntmps87
    go_wp2_with fail
    exact h
  · have h0' : 0 ≤ v := by omega
    by_cases h1 : v < 1048576
    · rw [if_pos ⟨by omega, h1⟩] at h
      go_enter Tryz.func87, Tryz.ntmps87
      go_wp2_with fail
      exact h
    · rw [if_neg (by omega)] at h
      have h1' : 1048576 ≤ v := by omega
      go_enter Tryz.func87, Tryz.ntmps87
      go_wp2_with fail
      exact h
theorem make_any (H : Sat F w) (u v : Int) (h : ∀ w', Sat F w' → Io w w' → R (.returned (.tuple #[.agg #[.int .i64 (mkP u v).1, .int .i64 (mkP u v).2], .int .i64 (mkE u v)])) w') :
    Calls Tryz.prog 70 #[.int .i64 u, .int .i64 v] w R := by
  unfold mkP mkE at h
  by_cases hu : verE u = 0
  · by_cases hv : verE v = 0
    · by_cases he : u = v
      · simp only [hu, hv, he, ne_eq, not_true_eq_false, or_self, if_false, if_true, Int.reduceEq] at h
        have HU := Lib.hid hu
        have HV := Lib.hid hv
        have hq : (u == v) = true := by rw [beq_iff_eq]; exact he
        clear hu hv he
        go_enter Tryz.func70, Tryz.ntmps70
        go_wp2_with (first | (go_at_call 66; with_reducible refine vertex_any u ?_; rw [HU.out]) | (go_at_call 66; with_reducible refine vertex_any v ?_; rw [HV.out]))
        exact bodyPost_ret (v := .tuple #[.agg #[.int .i64 0, .int .i64 0], .int .i64 31]) (by simp [results, Tryz.results70, go_sem]) rfl (h _ (H.new (.cells #[.int .i64 0, .int .i64 0] 49)).right ((Io.refl w).alloc _))
      · simp only [hu, hv, he, ne_eq, not_true_eq_false, or_self, if_false, if_true, Int.reduceEq] at h
        have HU := Lib.hid hu
        have HV := Lib.hid hv
        have hq : (u == v) = false := by rw [beq_eq_false_iff_ne]; exact he
        clear hu hv he
        go_enter Tryz.func70, Tryz.ntmps70
        go_wp2_with (first | (go_at_call 66; with_reducible refine vertex_any u ?_; rw [HU.out]) | (go_at_call 66; with_reducible refine vertex_any v ?_; rw [HV.out]))
        exact bodyPost_ret (v := .tuple #[.agg #[.int .i64 (min u v), .int .i64 (max u v)], .int .i64 0]) (by simp [results, Tryz.results70, go_sem]) rfl (h _ (H.new (.cells #[.int .i64 (min u v), .int .i64 (max u v)] 49)).right ((Io.refl w).alloc _))
    · have hv30 : verE v = 30 := by unfold verE at hv ⊢; split <;> simp_all
      simp only [hu, hv30, ne_eq, not_true_eq_false, Int.reduceEq, not_false_eq_true, or_true, if_true, if_false] at h
      have HU := Lib.hid hu
      have HV := Lib.hid hv30
      clear hu hv hv30
      go_enter Tryz.func70, Tryz.ntmps70
      go_wp2_with (first | (go_at_call 66; with_reducible refine vertex_any u ?_; rw [HU.out]) | (go_at_call 66; with_reducible refine vertex_any v ?_; rw [HV.out]))
      exact bodyPost_ret (v := .tuple #[.agg #[.int .i64 0, .int .i64 0], .int .i64 30]) (by simp [results, Tryz.results70, go_sem]) rfl (h _ (H.new (.cells #[.int .i64 0, .int .i64 0] 49)).right ((Io.refl w).alloc _))
  · have hu30 : verE u = 30 := by unfold verE at hu ⊢; split <;> simp_all
    simp only [hu30, ne_eq, Int.reduceEq, not_false_eq_true, true_or, if_true, if_false] at h
    have HU := Lib.hid hu30
    clear hu hu30
    go_enter Tryz.func70, Tryz.ntmps70
    go_wp2_with (first | (go_at_call 66; with_reducible refine vertex_any u ?_; rw [HU.out]))
    exact bodyPost_ret (v := .tuple #[.agg #[.int .i64 0, .int .i64 0], .int .i64 30]) (by simp [results, Tryz.results70, go_sem]) rfl (h _ (H.new (.cells #[.int .i64 0, .int .i64 0] 49)).right ((Io.refl w).alloc _))
end
end Go.Proofs.YtabpgejjnphfcaaGreat

/-
  Edges: Cmp, by its walk. It proves no statement by itself.
-/
namespace Go.Proofs.YtabpgejjnphfcaaGreat
open Go.RowKit
set_option linter.unusedSimpArgs false
set_option linter.unusedVariables false

/-- What Cmp says. -/
def cmpP (a b : Pr) : Int := if Lib.compareInt a.1 b.1 ≠ 0 then Lib.compareInt a.1 b.1 else Lib.compareInt a.2 b.2

section
variable {F : Asn} {w : World} {R : Ending → World → Prop}
set_option maxRecDepth 100000 in
theorem or_two {b : Nat} {x y : Int} (lb : b < w.heap.size) (c0 : w.cell? ⟨b, 0, none⟩ = some (.int .i64 x)) (c1 : w.cell? ⟨b, 1, none⟩ = some (.int .i64 y)) (h : R (.returned (.int .i64 (if x ≠ 0 then x else y))) w) :
    Calls Tryz.prog 45 #[.slice (some ⟨b, 0, none⟩) 2 2] w R := by
  by_cases hx : x = 0
  · subst hx
    rw [if_neg (by simp)] at h
    by_cases hy : y = 0
    · subst hy
      go_enter Tryz.func45, Tryz.ntmps45
      go_wp2_with fail
      refine wp_loop_rounds 3 ?_
      rw [rounds_succ]
      go_wp2_with fail
      rw [rounds_succ]
      go_wp2_with fail
      rw [rounds_succ]
      go_wp2_with fail
      exact h
    · have hq : (y != 0) = true := by rw [bne_iff_ne]; exact hy
      go_enter Tryz.func45, Tryz.ntmps45
      go_wp2_with fail
      refine wp_loop_rounds 3 ?_
      rw [rounds_succ]
      go_wp2_with fail
      rw [rounds_succ]
      go_wp2_with fail
      exact h
  · rw [if_pos hx] at h
    have hq : (x != 0) = true := by rw [bne_iff_ne]; exact hx
    go_enter Tryz.func45, Tryz.ntmps45
    go_wp2_with fail
    refine wp_loop_rounds 3 ?_
    rw [rounds_succ]
    go_wp2_with fail
    exact h
theorem compare_any (x y : Int) (h : R (.returned (.int .i64 (Lib.compareInt x y))) w) : Calls Tryz.prog 46 #[.int .i64 x, .int .i64 y] w R := by
  have hcon := AnyG.cmp_Compare_int Tryz.cmpIntF x y w
  change Calls Tryz.prog 46 _ _ _ at hcon
  refine hcon.mono ?_
  rintro e w' ⟨rfl, rfl⟩
  exact h
theorem alloc3_grow (W : World) (A B C : Obj) : ((W.alloc A).alloc B).drew.alloc C = Go.Sort.grow (W.drewN 1) #[A, B, C] := by
  rw [Go.Sort.alloc_eq_grow, Go.Sort.alloc_eq_grow, Go.Sort.alloc_eq_grow]
  show Go.Sort.grow (Go.Sort.grow (Go.Sort.grow (W.drewN 1) #[A]) #[B]) #[C] = _
  rw [Go.Sort.grow_grow, Go.Sort.grow_grow]
  rfl
set_option maxRecDepth 100000 in
set_option maxHeartbeats 1000000 in
/-- Cmp lays blocks, draws, and turns nothing. -/
theorem cmp_world (a b : Pr) (W : World) : Calls Tryz.prog 21 #[.agg #[.int .i64 a.1, .int .i64 a.2], .agg #[.int .i64 b.1, .int .i64 b.2]] W fun e w' => e = .returned (.int .i64 (cmpP a b)) ∧ ∃ q os', w' = Go.Sort.grow (W.drewN q) os' := by
  obtain ⟨x, hx⟩ : ∃ x, Hid (x = Lib.compareInt a.1 b.1) := ⟨_, Lib.hid rfl⟩
  obtain ⟨y, hy⟩ : ∃ y, Hid (y = Lib.compareInt a.2 b.2) := ⟨_, Lib.hid rfl⟩
  have e : cmpP a b = if x ≠ 0 then x else y := by unfold cmpP; rw [hx.out, hy.out]
  obtain ⟨z, hz⟩ : ∃ z, Hid (z = if x ≠ 0 then x else y) := ⟨_, Lib.hid rfl⟩
  rw [e, ← hz.out]
  clear e
  obtain ⟨a1, a2⟩ := a
  obtain ⟨b1, b2⟩ := b
  have lbV : W.heap.size + 1 + 1 < (((W.alloc (.cells #[.int .i64 a1, .int .i64 a2] 49)).alloc (.cells #[.int .i64 b1, .int .i64 b2] 49)).drew.alloc (.cells #[.int .i64 x, .int .i64 y] 3)).heap.size := by simp
  have hV := heap_alloc_new ((W.alloc (.cells #[.int .i64 a1, .int .i64 a2] 49)).alloc (.cells #[.int .i64 b1, .int .i64 b2] 49)).drew (.cells #[.int .i64 x, .int .i64 y] 3)
  have sV : ((W.alloc (.cells #[.int .i64 a1, .int .i64 a2] 49)).alloc (.cells #[.int .i64 b1, .int .i64 b2] 49)).drew.heap.size = W.heap.size + 1 + 1 := by simp
  rw [sV] at hV
  have c0V := Sat.read hV 0
  have c1V := Sat.read hV 1
  have E0 : Sat emp W := ⟨fun _ => none, fun _ => rfl, fun _ _ h => by cases h⟩
  have E2 := ((E0.new (.cells #[.int .i64 a1, .int .i64 a2] 49)).new (.cells #[.int .i64 b1, .int .i64 b2] 49)).drew
  have z1 : (W.alloc (.cells #[.int .i64 a1, .int .i64 a2] 49)).heap.size = W.heap.size + 1 := by simp
  rw [z1] at E2
  have E3 := E2.alloc (.cells #[.int .i64 x, .int .i64 y] 3)
  have s2 := And.intro (Sat.read E2.right.left.at 0) (And.intro (Sat.read E2.right.left.at 1) (And.intro (Sat.read E2.left.at 0) (Sat.read E2.left.at 1)))
  have s3 := And.intro (Sat.read E3.right.left.at 0) (And.intro (Sat.read E3.right.left.at 1) (And.intro (Sat.read E3.left.at 0) (Sat.read E3.left.at 1)))
  clear E0 E2 E3 z1
  have OR := Lib.hid (fun (R : Ending → World → Prop) (h : R (.returned (.int .i64 z)) _) => or_two (R := R) lbV c0V c1V (by rw [← hz.out]; exact h))
  have WW := Lib.hid (alloc3_grow W (.cells #[.int .i64 a1, .int .i64 a2] 49) (.cells #[.int .i64 b1, .int .i64 b2] 49) (.cells #[.int .i64 x, .int .i64 y] 3))
  clear lbV hV sV c0V c1V
  go_enter Tryz.func21, Tryz.ntmps21
  go_wp2_with fail
  go_region_held3 (fun V => V.cell? ⟨W.heap.size, 0, none⟩ = some (.int .i64 a1) ∧ V.cell? ⟨W.heap.size, 1, none⟩ = some (.int .i64 a2) ∧ V.cell? ⟨W.heap.size + 1, 0, none⟩ = some (.int .i64 b1) ∧ V.cell? ⟨W.heap.size + 1, 1, none⟩ = some (.int .i64 b2)) (first | exact s2 | exact s3) (first
    | (go_at_call 46; with_reducible refine compare_any a1 b1 ?_; rw [← hx.out])
    | (go_at_call 46; with_reducible refine compare_any a2 b2 ?_; rw [← hy.out])
    | (go_at_call 45; refine OR.out _ ?_))
  all_goals go_wp2_with fail
  all_goals go_ret
  all_goals exact ⟨rfl, 1, _, WW.out⟩
theorem compareInt_iff (x y : Int) : (Lib.compareInt x y < 0 ↔ x < y) ∧ (Lib.compareInt x y = 0 ↔ x = y) ∧ (0 < Lib.compareInt x y ↔ y < x) := by
  unfold Lib.compareInt
  refine ⟨?_, ?_, ?_⟩ <;> (split <;> (try split) <;> simp <;> omega)
theorem cmpP_lt (a b : Pr) : cmpP a b < 0 ↔ Eg.less a b = true := by
  have h1 := compareInt_iff a.1 b.1
  have h2 := compareInt_iff a.2 b.2
  unfold cmpP
  rw [Eg.less_iff]
  split <;> omega
theorem cmpP_zero (a b : Pr) : cmpP a b = 0 ↔ a = b := by
  have h1 := compareInt_iff a.1 b.1
  have h2 := compareInt_iff a.2 b.2
  unfold cmpP
  constructor
  · intro h
    split at h
    · omega
    · exact Prod.ext (by omega) (by omega)
  · rintro rfl
    split <;> omega
theorem cmpP_gt (a b : Pr) : 0 < cmpP a b ↔ Eg.less b a = true := by
  have h1 := compareInt_iff a.1 b.1
  have h2 := compareInt_iff a.2 b.2
  unfold cmpP
  rw [Eg.less_iff]
  split <;> omega
theorem lt_less (a b : Pr) : ltOf cmpP a b = Eg.less a b := by
  unfold ltOf
  rw [Bool.eq_iff_iff, decide_eq_true_eq]
  exact cmpP_lt a b
theorem swo_less : Go.Sort.SWO (ltOf cmpP) where
  irrefl x := by rw [lt_less]; exact Eg.less_irrefl x
  trans x y z h1 h2 := by rw [lt_less] at *; exact Eg.less_trans h1 h2
  ntrans x y z h1 h2 := by
    rw [lt_less] at *
    rw [Bool.eq_false_iff, ne_eq, Eg.less_iff] at *
    omega
/-- A pair's two cells. -/
def encP (x : Pr) : List Value := [.int .i64 x.1, .int .i64 x.2]
theorem cmp_lays (blk off size : Nat) (w : World) : CmpLays Tryz.prog 21 #[] encP 2 cmpP blk off size w := fun _ _ _ _ x y => cmp_world x y _
end
end Go.Proofs.YtabpgejjnphfcaaGreat

/-
  Rows of pairs, and slices.SortFunc over Cmp on them. It proves no statement by itself.
-/
namespace Go.Proofs.YtabpgejjnphfcaaGreat
open Go.RowKit Go.Sort Go.Shelf Go.Lib
set_option linter.unusedSimpArgs false
set_option linter.unusedVariables false

theorem flat_get (l : List Pr) (j : Nat) (h : j < l.length * 2) : (pv l)[j]? = some (flatK encP 2 l.toArray)[j]! := by
  rw [get_flatK _ _ _ _ (by simpa using h)]
  have hk : j / 2 < l.length := by omega
  have e : (l.toArray)[j / 2]! = l[j / 2] := by simp [hk]
  rw [e]
  have hj : j = 2 * (j / 2) ∨ j = 2 * (j / 2) + 1 := by omega
  rcases hj with hj | hj
  · have m : j % 2 = 0 := by omega
    rw [m]
    conv => lhs; rw [hj]
    rw [pv_get0 l _ hk]
    rfl
  · have m : j % 2 = 1 := by omega
    rw [m]
    conv => lhs; rw [hj]
    rw [pv_get1 l _ hk]
    rfl

section
variable {F : Asn} {w : World} {R : Ending → World → Prop} {g c : Nat} {l : List Pr}
theorem row_holds (H : Sat (Row 49 2 (.slice (some ⟨g, 0, none⟩) l.length c) l.length (pv l) * F) w) : g < w.heap.size ∧ HoldsK encP 2 w g 0 l.toArray := by
  obtain ⟨hl, ⟨h0, _⟩ | ⟨g', cap, cur, e1, e2, e3, e4, e5, h⟩⟩ := sat_row.1 H
  · cases h0
  · cases e1
    refine ⟨h.left.lt, fun j hj => ⟨?_, Sat.free h.left.at _⟩⟩
    have hj' : j < l.length * 2 := by simpa using hj
    rw [Nat.zero_add, Sat.read h.left.at j, ← Array.getElem?_toList, ← List.getElem?_take_of_lt hj', e5, flat_get l j hj']
    rfl
theorem sorted_row {n : Nat} {os : Array Obj} {l' : List Pr} (hs : l'.length = l.length) (H : Sat (Row 49 2 (.slice (some ⟨g, 0, none⟩) l.length c) l.length (pv l) * F) w) :
    Sat (Row 49 2 (.slice (some ⟨g, 0, none⟩) l.length c) l.length (pv l') * F) (sortWorldK encP 2 w g 0 n l'.toArray os) ∧ Io w (sortWorldK encP 2 w g 0 n l'.toArray os) := by
  obtain ⟨hl, ⟨h0, _⟩ | ⟨g', cap, cur, e1, e2, e3, e4, e5, h⟩⟩ := sat_row.1 H
  · cases h0
  · cases e1
    have hb := h.left.at
    have hsz : (sortWorldK encP 2 w g 0 n l'.toArray os).heap.size = w.heap.size + os.size := by simp [sortWorldK, putRowK, putRow, mapBlock, ahead]
    refine ⟨sat_row.2 ⟨by rw [pv_length, hs], .inr ⟨g, c, putCells id 0 (flatK encP 2 l'.toArray) cur, rfl, e2, e3, by simpa [putCells] using e4, ?_, h.set ?_ ?_⟩⟩, ⟨rfl, rfl, rfl, by omega⟩⟩
    · apply List.ext_getElem?
      intro j
      by_cases hj : j < l.length * 2
      · have hc : j < cur.size := by rw [e4]; have := Nat.mul_le_mul_right 2 e2; omega
        rw [List.getElem?_take_of_lt hj, Array.getElem?_toList]
        rw [flat_get l' j (by omega)]
        simp [putCells, hc, hs]
        omega
      · rw [List.getElem?_eq_none (by rw [List.length_take]; omega), List.getElem?_eq_none (by rw [pv_length]; omega)]
    · have hlt : g < w.heap.size := h.left.lt
      simp only [sortWorldK, putRowK, putRow, mapBlock, ahead, grow, Array.getElem?_append, Array.size_modify, if_true, Array.getElem?_modify]
      rw [if_pos (show g < (Go.Sort.ahead w n).heap.size from hlt)]
      show Option.map _ w.heap[g]? = _
      rw [hb]
      rfl
    · intro k hk hne
      simp only [sortWorldK, putRowK, putRow, mapBlock, ahead, grow, Array.getElem?_append, Array.size_modify, Array.getElem?_modify, if_neg (Ne.symm hne)]
      rw [if_pos (show k < (Go.Sort.ahead w n).heap.size from hk)]
      rfl

/-- slices.SortFunc over Cmp. -/
theorem sortfunc_any (H : Sat (Row 49 2 (.slice (some ⟨g, 0, none⟩) l.length c) l.length (pv l) * F) w) (hl : l.length ≤ 1000000)
    (h : ∀ l' w', (∀ x, x ∈ l' ↔ x ∈ l) → Eg.Weak l' → l'.length = l.length → Sat (Row 49 2 (.slice (some ⟨g, 0, none⟩) l.length c) l.length (pv l') * F) w' → Io w w' → R (.returned (.tuple #[])) w') :
    Calls Tryz.prog 117 #[.slice (some ⟨g, 0, none⟩) l.length c, .func (.func 21) #[] #[]] w R := by
  obtain ⟨lg, hH⟩ := row_holds H
  have eg : ∀ args w, (callFunc 21 args).run Tryz.prog w = .ok (.enter 21 args) w := enters_of Tryz.func21 (by kernel_rfl) rfl
  have hcon := AnyQ.slices_SortFunc Tryz.sortPairs 2 Tryz.isAgg49 Tryz.sizeOf49 encP (fun _ => rfl) (fun x v hv => by simp [encP] at hv; rcases hv with rfl | rfl <;> rfl) cmpP swo_less 21 #[] g 0 c l.toArray w eg (cmp_lays g 0 l.toArray.size w) hH lg (by simp; omega)
  change Calls Tryz.prog 117 _ _ _ at hcon
  rw [List.size_toArray] at hcon
  refine hcon.mono ?_
  rintro e w' ⟨rfl, d', n, os, hp, hs, rfl⟩
  obtain ⟨p1, _, p3⟩ := hp
  have hsz : d'.toList.length = l.length := by simpa using p1
  have hperm : d'.toList.Perm l := by
    have : (d'.extract 0 l.length).toList = d'.toList := by rw [Array.toList_extract]; simp only [List.extract, List.drop_zero, Nat.sub_zero]; exact List.take_of_length_le (by omega)
    have e2 : (l.toArray.extract 0 l.length).toList = l := by simp
    rw [this, e2] at p3
    exact p3
  have hw : Eg.Weak d'.toList := by
    unfold Eg.Weak
    rw [List.pairwise_iff_getElem]
    intro i j hi hj hij
    have := hs i j (Nat.zero_le _) hij (by omega)
    rw [lt_less, getElem!_pos d' j (by simpa using hj), getElem!_pos d' i (by simpa using hi)] at this
    simpa using this
  obtain ⟨s1, s2⟩ := sorted_row (n := n) (os := os) hsz H
  exact h d'.toList _ (fun x => hperm.mem_iff) hw hsz s1 s2
end
end Go.Proofs.YtabpgejjnphfcaaGreat

/-
  Rows of pairs that came in, slices.Clone on them, and when two pairs are one. It proves no statement by itself.
-/
namespace Go.Proofs.YtabpgejjnphfcaaGreat
open Go.RowKit Go.Shelf Go.Lib
set_option linter.unusedSimpArgs false
set_option linter.unusedVariables false

section
variable {F : Asn} {w : World} {R : Ending → World → Prop} {l : List Pr} {v : Value}
theorem owns_sat {w' : World} {v' : Value} (H : Sat F w) (n : Nat) (xs : List Value) (e : TypeId) (size : Nat) (h : w'.ownsRow w.heap.size e size v' n xs) (b : Below w.heap.size w w') : Sat (Row e size v' n xs * F) w' := by
  have H' : Sat F w' := H.keep fun k hk => b.block k hk
  obtain ⟨hl, hr⟩ := h
  rcases hr with ⟨rfl, rfl⟩ | ⟨g, cap, cur, e1, e2, e3, e4, e5, e6, e7⟩
  · exact sat_row.2 ⟨hl, .inl ⟨rfl, rfl, H'⟩⟩
  · exact sat_row.2 ⟨hl, .inr ⟨g, cap, cur, e1, e4, e5, e6, e7, H.fresh e2 e3 fun k hk => b.block k hk⟩⟩
set_option maxRecDepth 100000 in
set_option maxHeartbeats 1000000 in
theorem clone_empty (ad : Addr) (c : Nat) (H : Sat F w) (h : ∀ v' w', Sat (Row 49 2 v' 0 (pv []) * F) w' → Io w w' → R (.returned v') w') :
    Calls Tryz.prog 68 #[.slice (some ad) 0 c] w R := by
  have HH := Lib.hid h
  have H0 := H.new (.cells #[] 49)
  have I0 := (Io.refl w).alloc (.cells #[] 49)
  have H1 : Sat (RowP (.slice (some ⟨w.heap.size, 0, none⟩) 0 0) [] * F) (w.alloc (.cells #[] 49)) := sat_row.2 ⟨rfl, .inr ⟨w.heap.size, 0, #[], rfl, Nat.le_refl _, by unfold maxLen; omega, rfl, rfl, H0⟩⟩
  have hu : Hid (ReadsP F (.slice (some ad) 0 c) []) := Lib.hid ⟨some ad, c, rfl, by simp, .inl rfl⟩
  have q22 : ∀ (w : World) (a : Option Addr) (n c n' c' : Nat), (binOp .eql 22 (.slice a n c) (.slice none n' c')).run Tryz.prog w = .ok (.bool a.isNone) w := fun w a n c n' c' => Lib.run_eql_slice_nil w _ _ a n c n' c' Tryz.underlying22
  clear h H H0
  go_enter Tryz.func68, Tryz.ntmps68
  go_wp2_with (at_builtin; refine wpList_append_pairs rfl (.tmp 5) (.tmp 6) rfl rfl H1 (by simp) (by simp) rfl hu.out ?_; intro v3 w3 H3 I3)
  exact HH.out _ _ H3 (I0.trans I3)
/-- slices.Clone. -/
theorem clone_any (hv : ReadsP F v l) (hl : l.length ≤ 1000000) (H : Sat F w) (h : ∀ v' w', Sat (Row 49 2 v' l.length (pv l) * F) w' → Io w w' → R (.returned v') w') :
    Calls Tryz.prog 68 #[v] w R := by
  obtain ⟨a, c, rfl, _, hr⟩ := hv
  rcases hr with rfl | ⟨b, off, rfl, hc⟩
  · cases a with
    | none =>
      have hcon := AnyE.slices_Clone_nil Tryz.clonePairs 0 c w
      change Calls Tryz.prog 68 _ _ _ at hcon
      refine hcon.mono ?_
      rintro e w' ⟨rfl, rfl⟩
      exact h _ _ (row_nil _ _ _ _ H) (Io.refl _)
    | some ad => exact clone_empty ad c H h
  · obtain ⟨i0, hi, hz0, hz1, hz2⟩ := info_parts Tryz.info49
    have hcon := AnyE.slices_Clone Tryz.clonePairs i0 _ 2 16 hi hz0 hz1 hz2 rfl (by decide) Tryz.sizeOf49 b off l.length c (pv l) w (pv_length l) (by unfold maxLen; omega) (by omega) (hc w H) (pv_one l)
    change Calls Tryz.prog 68 _ _ _ at hcon
    refine hcon.mono ?_
    rintro e w' ⟨v', rfl, ho, _, hb⟩
    exact h v' w' (owns_sat H _ _ _ _ ho hb) ⟨hb.os, hb.tape, hb.output, hb.size⟩
end
end Go.Proofs.YtabpgejjnphfcaaGreat

/-
  Two rising lists gone through (merge), by its walk, over whatever is done with each pair. It proves no statement by itself.
-/
namespace Go.Proofs.YtabpgejjnphfcaaGreat
open Go.RowKit
set_option linter.unusedSimpArgs false
set_option linter.unusedVariables false

theorem Sat.grow {F : Asn} {w : World} (H : Sat F w) (q : Nat) (os : Array Obj) : Sat F (Go.Sort.grow (w.drewN q) os) := by
  refine H.keep fun k hk => ?_
  simp only [Go.Sort.grow, Array.getElem?_append]
  rw [if_pos (show k < (w.drewN q).heap.size from hk)]
  rfl
theorem Io.grow (w : World) (q : Nat) (os : Array Obj) : Io w (Go.Sort.grow (w.drewN q) os) := ⟨rfl, rfl, rfl, by simp [Go.Sort.grow, World.drewN]⟩
/-- How many elements a slice value has. -/
def vlen : Value → Nat
  | .slice _ n _ => n
  | _ => 0
/-- .. and no more than its room. -/
def vfit : Value → Prop
  | .slice _ n c => n ≤ c
  | _ => False
theorem vfit_row {F : Asn} {w : World} {v : Value} {l : List Pr} (H : Sat (RowP v l * F) w) : vfit v := by
  obtain ⟨hx, ⟨rfl, h0, _⟩ | ⟨g, cap, cur, rfl, h2, _⟩⟩ := sat_row.1 H
  · exact Nat.le_refl _
  · exact h2
theorem readsP_tail {F : Asn} {b off n c : Nat} {x : Pr} {l : List Pr} (h : ReadsP F (.slice (some ⟨b, off, none⟩) n c) (x :: l)) (o' : Nat) (ho : l ≠ [] → o' = off + 2) (c' : Nat) : ReadsP F (.slice (some ⟨b, o', none⟩) (n - 1) c') l := by
  obtain ⟨a0, c0, h1, h2, h3⟩ := h
  cases h1
  refine ⟨_, c', by simp, by simp at h2; omega, .inr ⟨b, o', rfl, ?_⟩⟩
  rcases h3 with h3 | ⟨b', off', e, h3⟩
  · cases h3
  · cases e
    cases l with
    | nil => intro w hw j u hu; simp [pv] at hu
    | cons y l =>
      intro w hw j u hu
      have := h3 w hw (j + 2) u (by rw [show pv (x :: y :: l) = [.int .i64 x.1, .int .i64 x.2] ++ pv (y :: l) from rfl, List.getElem?_append_right (by simp)]; simpa using hu)
      rw [ho (by simp), show off + 2 + j = off + (j + 2) from by omega]
      exact this
namespace Eg
theorem mrg_len (a b : List Pr) : (mrg a b).length ≤ a.length + b.length := by
  fun_induction mrg a b <;> simp_all <;> omega
end Eg
section
variable {F : Asn} {w : World} {R : Ending → World → Prop}
theorem cmp_d (a b : Pr) {c : Int} (hc : Hid (c = cmpP a b)) (H : Sat F w) (h : ∀ w', Sat F w' → Io w w' → R (.returned (.int .i64 c)) w') :
    Calls Tryz.prog 21 #[.agg #[.int .i64 a.1, .int .i64 a.2], .agg #[.int .i64 b.1, .int .i64 b.2]] w R := by
  refine (cmp_world a b w).mono ?_
  rintro e w' ⟨rfl, q, os, rfl⟩
  rw [← hc.out]
  exact h _ (H.grow q os) (Io.grow w q os)
set_option maxRecDepth 100000 in
set_option maxHeartbeats 4000000 in
theorem merge_any {A : List (Pr × Bool × Bool) → Asn} {va vb : Value} {la lb : List Pr} (ha : ReadsP F va la) (fa : vfit va) (hb : ReadsP F vb lb) (fb : vfit vb) (g : Nat) (cb : Array Value) (eg : ∀ args w, (callFunc g args).run Tryz.prog w = .ok (.enter g args) w)
    (hy : ∀ (m : List (Pr × Bool × Bool)) (p : Pr) (o t : Bool) (w : World) (R : Ending → World → Prop), m.length ≤ la.length + lb.length → Sat (A m * F) w → (∀ w', Sat (A (m ++ [(p, o, t)]) * F) w' → Io w w' → R (.returned (.tuple #[])) w') →
      Calls Tryz.prog g (#[.agg #[.int .i64 p.1, .int .i64 p.2], .bool o, .bool t] ++ cb) w R)
    (H : Sat (A [] * F) w) (h : ∀ w', Sat (A (Eg.mrg la lb) * F) w' → Io w w' → R (.returned (.tuple #[])) w') :
    Calls Tryz.prog 95 #[va, vb, .func (.func 21) #[] #[], .func (.func g) #[] cb] w R := by
  have HH := Lib.hid h
  have HY := Lib.hid hy
  have HA := Lib.hid ha
  have HB := Lib.hid hb
  clear h hy ha hb
  go_enter Tryz.func95, Tryz.ntmps95
  go_wp2_with fail
  go_loopw [0, 1] (fun x y wr => ∃ (l1 l2 : List Pr) (m : List (Pr × Bool × Bool)), Hid (ReadsP F x l1) ∧ Hid (ReadsP F y l2) ∧ vfit x ∧ vfit y ∧ Hid (m ++ Eg.mrg l1 l2 = Eg.mrg la lb) ∧ Sat (A m * F) wr ∧ Io w wr) (fun x y _ => vlen x + vlen y)
  case atStart => exact ⟨la, lb, [], HA, HB, fa, fb, Lib.hid rfl, H, Io.refl _⟩
  case round =>
    obtain ⟨l1, l2, m, h1, h2, f1, f2, hs, Hk, Ik⟩ := hrel
    clear H HA HB fa fb
    obtain ⟨a1, c1, rfl, n1⟩ := readsP_len h1.out
    obtain ⟨a2, c2, rfl, n2⟩ := readsP_len h2.out
    simp only [vfit] at f1 f2
    have HM : Hid (m.length ≤ la.length + lb.length) := Lib.hid (by
      have e := congrArg List.length hs.out
      have := Eg.mrg_len la lb
      rw [List.length_append] at e
      omega)
    cases l1 with
    | nil =>
      cases l2 with
      | nil =>
        have hm : Hid (m = Eg.mrg la lb) := Lib.hid (by rw [← hs.out]; simp [Eg.mrg])
        go_wp2_with fail
        rw [hm.out] at Hk
        go_end0
        exact HH.out _ Hk Ik
      | cons y l2 =>
        obtain ⟨b2, o2, y1, y2, rfl, hy, hc⟩ := readsP_get h2.out 0 (by simp)
        obtain ⟨d0, d1⟩ := hc wr Hk.right
        obtain rfl : y = (y1, y2) := hy
        have hm : Hid (m ++ [((y1, y2), false, true)] ++ Eg.mrg [] l2 = Eg.mrg la lb) := Lib.hid (by rw [← hs.out, Eg.mrg]; simp)
        generalize hN2 : ((y1, y2) :: l2).length = N2 at *
        have p2 : (0 : Int) < (N2 : Int) := by simp at hN2; omega
        have q2 : ¬ (N2 : Int) = 0 := by omega
        have p2n : 0 < N2 := by omega
        have L2 := Lib.hid (show N2 = l2.length + 1 from by simp at hN2; omega)
        clear hN2
        have F1 := Lib.hid f1
        have F2 := Lib.hid f2
        clear hc hs f1 f2
        simp only [Nat.zero_mul, Nat.add_zero] at d0 d1
        by_cases hc2 : c2 = 1
        · go_wp2_with (go_at_fn g; refine HY.out m (y1, y2) false true _ _ HM.out Hk ?_; intro w5 H5 I5)
          go_roundw
          case rel => exact ⟨[], l2, m ++ [((y1, y2), false, true)], h1, Lib.hid (readsP_tail h2.out o2 (fun h => absurd (List.eq_nil_of_length_eq_zero (by first | (have := F1.out; have := F2.out; have := L1.out; have := L2.out; omega) | (have := F1.out; have := F2.out; have := L1.out; have : ([] : List Pr).length = 0 := rfl; omega) | (have := F1.out; have := F2.out; have := L2.out; have : ([] : List Pr).length = 0 := rfl; omega))) h) _), F1.out, by simp only [vfit]; first | (have := F1.out; have := F2.out; have := L1.out; have := L2.out; omega) | (have := F1.out; have := F2.out; have := L1.out; have : ([] : List Pr).length = 0 := rfl; omega) | (have := F1.out; have := F2.out; have := L2.out; have : ([] : List Pr).length = 0 := rfl; omega), hm, H5, Ik.trans I5⟩
          case measure => simp only [vlen]; first | (have := F1.out; have := F2.out; have := L1.out; have := L2.out; omega) | (have := F1.out; have := F2.out; have := L1.out; have : ([] : List Pr).length = 0 := rfl; omega) | (have := F1.out; have := F2.out; have := L2.out; have : ([] : List Pr).length = 0 := rfl; omega)
        · go_wp2_with (go_at_fn g; refine HY.out m (y1, y2) false true _ _ HM.out Hk ?_; intro w5 H5 I5)
          go_roundw
          case rel => exact ⟨[], l2, m ++ [((y1, y2), false, true)], h1, Lib.hid (readsP_tail h2.out (o2 + 2) (fun _ => rfl) _), F1.out, by simp only [vfit]; first | (have := F1.out; have := F2.out; have := L1.out; have := L2.out; omega) | (have := F1.out; have := F2.out; have := L1.out; have : ([] : List Pr).length = 0 := rfl; omega) | (have := F1.out; have := F2.out; have := L2.out; have : ([] : List Pr).length = 0 := rfl; omega), hm, H5, Ik.trans I5⟩
          case measure => simp only [vlen]; first | (have := F1.out; have := F2.out; have := L1.out; have := L2.out; omega) | (have := F1.out; have := F2.out; have := L1.out; have : ([] : List Pr).length = 0 := rfl; omega) | (have := F1.out; have := F2.out; have := L2.out; have : ([] : List Pr).length = 0 := rfl; omega)
    | cons x l1 =>
      obtain ⟨b1, o1, x1, x2, rfl, hx, hcx⟩ := readsP_get h1.out 0 (by simp)
      obtain ⟨e0, e1⟩ := hcx wr Hk.right
      obtain rfl : x = (x1, x2) := hx
      simp only [Nat.zero_mul, Nat.add_zero] at e0 e1 hcx
      generalize hN1 : ((x1, x2) :: l1).length = N1 at *
      have p1 : (0 : Int) < (N1 : Int) := by simp at hN1; omega
      have q1 : ¬ (N1 : Int) = 0 := by omega
      have p1n : 0 < N1 := by omega
      have L1 := Lib.hid (show N1 = l1.length + 1 from by simp at hN1; omega)
      clear hN1
      cases l2 with
      | nil =>
        have hm : Hid (m ++ [((x1, x2), true, false)] ++ Eg.mrg l1 [] = Eg.mrg la lb) := Lib.hid (by rw [← hs.out, Eg.mrg]; simp)
        have F1 := Lib.hid f1
        have F2 := Lib.hid f2
        clear hcx hs f1 f2
        by_cases hc1 : c1 = 1
        · go_wp2_with (go_at_fn g; refine HY.out m (x1, x2) true false _ _ HM.out Hk ?_; intro w5 H5 I5)
          go_roundw
          case rel => exact ⟨l1, [], m ++ [((x1, x2), true, false)], Lib.hid (readsP_tail h1.out o1 (fun h => absurd (List.eq_nil_of_length_eq_zero (by first | (have := F1.out; have := F2.out; have := L1.out; have := L2.out; omega) | (have := F1.out; have := F2.out; have := L1.out; have : ([] : List Pr).length = 0 := rfl; omega) | (have := F1.out; have := F2.out; have := L2.out; have : ([] : List Pr).length = 0 := rfl; omega))) h) _), h2, by simp only [vfit]; first | (have := F1.out; have := F2.out; have := L1.out; have := L2.out; omega) | (have := F1.out; have := F2.out; have := L1.out; have : ([] : List Pr).length = 0 := rfl; omega) | (have := F1.out; have := F2.out; have := L2.out; have : ([] : List Pr).length = 0 := rfl; omega), F2.out, hm, H5, Ik.trans I5⟩
          case measure => simp only [vlen]; first | (have := F1.out; have := F2.out; have := L1.out; have := L2.out; omega) | (have := F1.out; have := F2.out; have := L1.out; have : ([] : List Pr).length = 0 := rfl; omega) | (have := F1.out; have := F2.out; have := L2.out; have : ([] : List Pr).length = 0 := rfl; omega)
        · go_wp2_with (go_at_fn g; refine HY.out m (x1, x2) true false _ _ HM.out Hk ?_; intro w5 H5 I5)
          go_roundw
          case rel => exact ⟨l1, [], m ++ [((x1, x2), true, false)], Lib.hid (readsP_tail h1.out (o1 + 2) (fun _ => rfl) _), h2, by simp only [vfit]; first | (have := F1.out; have := F2.out; have := L1.out; have := L2.out; omega) | (have := F1.out; have := F2.out; have := L1.out; have : ([] : List Pr).length = 0 := rfl; omega) | (have := F1.out; have := F2.out; have := L2.out; have : ([] : List Pr).length = 0 := rfl; omega), F2.out, hm, H5, Ik.trans I5⟩
          case measure => simp only [vlen]; first | (have := F1.out; have := F2.out; have := L1.out; have := L2.out; omega) | (have := F1.out; have := F2.out; have := L1.out; have : ([] : List Pr).length = 0 := rfl; omega) | (have := F1.out; have := F2.out; have := L2.out; have : ([] : List Pr).length = 0 := rfl; omega)
      | cons y l2 =>
        obtain ⟨b2, o2, y1, y2, rfl, hy, hcy⟩ := readsP_get h2.out 0 (by simp)
        obtain rfl : y = (y1, y2) := hy
        simp only [Nat.zero_mul, Nat.add_zero] at hcy
        obtain ⟨d0, d1⟩ := hcy wr Hk.right
        generalize hN2 : ((y1, y2) :: l2).length = N2 at *
        have p2 : (0 : Int) < (N2 : Int) := by simp at hN2; omega
        have q2 : ¬ (N2 : Int) = 0 := by omega
        have p2n : 0 < N2 := by omega
        have L2 := Lib.hid (show N2 = l2.length + 1 from by simp at hN2; omega)
        clear hN2
        have HX := Lib.hid hcx
        have HYC := Lib.hid hcy
        obtain ⟨c, hc⟩ : ∃ c, Hid (c = cmpP (x1, x2) (y1, y2)) := ⟨_, Lib.hid rfl⟩
        have k1 := cmpP_lt (x1, x2) (y1, y2)
        have k2 := cmpP_gt (x1, x2) (y1, y2)
        have k3 := cmpP_zero (x1, x2) (y1, y2)
        rw [← hc.out] at k1 k2 k3
        have em := Eg.mrg.eq_4 (x1, x2) l1 (y1, y2) l2
        have F1 := Lib.hid f1
        have F2 := Lib.hid f2
        clear hcx hcy f1 f2
        by_cases hlt : c < 0
        · have hm : Hid (m ++ [((x1, x2), true, false)] ++ Eg.mrg l1 ((y1, y2) :: l2) = Eg.mrg la lb) := Lib.hid (by rw [← hs.out, em, if_pos (k1.1 hlt)]; simp)
          clear k1 k2 k3 em hs
          go_wp2_with fail
          go_region_held3 (fun W => W.cell? ⟨b1, o1, none⟩ = some (.int .i64 x1) ∧ W.cell? ⟨b1, o1 + 1, none⟩ = some (.int .i64 x2) ∧ W.cell? ⟨b2, o2, none⟩ = some (.int .i64 y1) ∧ W.cell? ⟨b2, o2 + 1, none⟩ = some (.int .i64 y2)) (first | exact ⟨e0, e1, d0, d1⟩ | exact ⟨z0, z1, z2, z3⟩) ((go_at_call 21; with_reducible refine cmp_d (x1, x2) (y1, y2) hc Hk.drew ?_; intro w4 H4 I4; obtain ⟨z0, z1⟩ := HX.out w4 H4.right; obtain ⟨z2, z3⟩ := HYC.out w4 H4.right))
          clear e0 e1 d0 d1
          by_cases hc1 : c1 = 1
          · go_wp2_with (go_at_fn g; refine HY.out m (x1, x2) true false _ _ HM.out H4 ?_; intro w5 H5 I5)
            go_roundw
            case rel => exact ⟨l1, (y1, y2) :: l2, m ++ [((x1, x2), true, false)], Lib.hid (readsP_tail h1.out o1 (fun h => absurd (List.eq_nil_of_length_eq_zero (by first | (have := F1.out; have := F2.out; have := L1.out; have := L2.out; omega) | (have := F1.out; have := F2.out; have := L1.out; have : ([] : List Pr).length = 0 := rfl; omega) | (have := F1.out; have := F2.out; have := L2.out; have : ([] : List Pr).length = 0 := rfl; omega))) h) _), h2, by simp only [vfit]; first | (have := F1.out; have := F2.out; have := L1.out; have := L2.out; omega) | (have := F1.out; have := F2.out; have := L1.out; have : ([] : List Pr).length = 0 := rfl; omega) | (have := F1.out; have := F2.out; have := L2.out; have : ([] : List Pr).length = 0 := rfl; omega), F2.out, hm, H5, (Ik.drew.trans I4).trans I5⟩
            case measure => simp only [vlen]; first | (have := F1.out; have := F2.out; have := L1.out; have := L2.out; omega) | (have := F1.out; have := F2.out; have := L1.out; have : ([] : List Pr).length = 0 := rfl; omega) | (have := F1.out; have := F2.out; have := L2.out; have : ([] : List Pr).length = 0 := rfl; omega)
          · go_wp2_with (go_at_fn g; refine HY.out m (x1, x2) true false _ _ HM.out H4 ?_; intro w5 H5 I5)
            go_roundw
            case rel => exact ⟨l1, (y1, y2) :: l2, m ++ [((x1, x2), true, false)], Lib.hid (readsP_tail h1.out (o1 + 2) (fun _ => rfl) _), h2, by simp only [vfit]; first | (have := F1.out; have := F2.out; have := L1.out; have := L2.out; omega) | (have := F1.out; have := F2.out; have := L1.out; have : ([] : List Pr).length = 0 := rfl; omega) | (have := F1.out; have := F2.out; have := L2.out; have : ([] : List Pr).length = 0 := rfl; omega), F2.out, hm, H5, (Ik.drew.trans I4).trans I5⟩
            case measure => simp only [vlen]; first | (have := F1.out; have := F2.out; have := L1.out; have := L2.out; omega) | (have := F1.out; have := F2.out; have := L1.out; have : ([] : List Pr).length = 0 := rfl; omega) | (have := F1.out; have := F2.out; have := L2.out; have : ([] : List Pr).length = 0 := rfl; omega)
        · by_cases hgt : 0 < c
          · have hn : ¬ Eg.less (x1, x2) (y1, y2) = true := fun h => hlt (k1.2 h)
            have hm : Hid (m ++ [((y1, y2), false, true)] ++ Eg.mrg ((x1, x2) :: l1) l2 = Eg.mrg la lb) := Lib.hid (by rw [← hs.out, em, if_neg hn, if_pos (k2.1 hgt)]; simp)
            clear k1 k2 k3 em hs hn
            go_wp2_with fail
            go_region_held3 (fun W => W.cell? ⟨b1, o1, none⟩ = some (.int .i64 x1) ∧ W.cell? ⟨b1, o1 + 1, none⟩ = some (.int .i64 x2) ∧ W.cell? ⟨b2, o2, none⟩ = some (.int .i64 y1) ∧ W.cell? ⟨b2, o2 + 1, none⟩ = some (.int .i64 y2)) (first | exact ⟨e0, e1, d0, d1⟩ | exact ⟨z0, z1, z2, z3⟩) ((go_at_call 21; with_reducible refine cmp_d (x1, x2) (y1, y2) hc Hk.drew ?_; intro w4 H4 I4; obtain ⟨z0, z1⟩ := HX.out w4 H4.right; obtain ⟨z2, z3⟩ := HYC.out w4 H4.right))
            clear e0 e1 d0 d1
            by_cases hc2 : c2 = 1
            · go_wp2_with (go_at_fn g; refine HY.out m (y1, y2) false true _ _ HM.out H4 ?_; intro w5 H5 I5)
              go_roundw
              case rel => exact ⟨(x1, x2) :: l1, l2, m ++ [((y1, y2), false, true)], h1, Lib.hid (readsP_tail h2.out o2 (fun h => absurd (List.eq_nil_of_length_eq_zero (by first | (have := F1.out; have := F2.out; have := L1.out; have := L2.out; omega) | (have := F1.out; have := F2.out; have := L1.out; have : ([] : List Pr).length = 0 := rfl; omega) | (have := F1.out; have := F2.out; have := L2.out; have : ([] : List Pr).length = 0 := rfl; omega))) h) _), F1.out, by simp only [vfit]; first | (have := F1.out; have := F2.out; have := L1.out; have := L2.out; omega) | (have := F1.out; have := F2.out; have := L1.out; have : ([] : List Pr).length = 0 := rfl; omega) | (have := F1.out; have := F2.out; have := L2.out; have : ([] : List Pr).length = 0 := rfl; omega), hm, H5, (Ik.drew.trans I4).trans I5⟩
              case measure => simp only [vlen]; first | (have := F1.out; have := F2.out; have := L1.out; have := L2.out; omega) | (have := F1.out; have := F2.out; have := L1.out; have : ([] : List Pr).length = 0 := rfl; omega) | (have := F1.out; have := F2.out; have := L2.out; have : ([] : List Pr).length = 0 := rfl; omega)
            · go_wp2_with (go_at_fn g; refine HY.out m (y1, y2) false true _ _ HM.out H4 ?_; intro w5 H5 I5)
              go_roundw
              case rel => exact ⟨(x1, x2) :: l1, l2, m ++ [((y1, y2), false, true)], h1, Lib.hid (readsP_tail h2.out (o2 + 2) (fun _ => rfl) _), F1.out, by simp only [vfit]; first | (have := F1.out; have := F2.out; have := L1.out; have := L2.out; omega) | (have := F1.out; have := F2.out; have := L1.out; have : ([] : List Pr).length = 0 := rfl; omega) | (have := F1.out; have := F2.out; have := L2.out; have : ([] : List Pr).length = 0 := rfl; omega), hm, H5, (Ik.drew.trans I4).trans I5⟩
              case measure => simp only [vlen]; first | (have := F1.out; have := F2.out; have := L1.out; have := L2.out; omega) | (have := F1.out; have := F2.out; have := L1.out; have : ([] : List Pr).length = 0 := rfl; omega) | (have := F1.out; have := F2.out; have := L2.out; have : ([] : List Pr).length = 0 := rfl; omega)
          · have h0 : c = 0 := by omega
            have hn : ¬ Eg.less (x1, x2) (y1, y2) = true := fun h => hlt (k1.2 h)
            have hn2 : ¬ Eg.less (y1, y2) (x1, x2) = true := fun h => hgt (k2.2 h)
            have hm : Hid (m ++ [((x1, x2), true, true)] ++ Eg.mrg l1 l2 = Eg.mrg la lb) := Lib.hid (by rw [← hs.out, em, if_neg hn, if_neg hn2]; simp)
            clear k1 k2 k3 em hs hn hn2
            subst h0
            clear hlt hgt
            go_wp2_with fail
            go_region_held3 (fun W => W.cell? ⟨b1, o1, none⟩ = some (.int .i64 x1) ∧ W.cell? ⟨b1, o1 + 1, none⟩ = some (.int .i64 x2) ∧ W.cell? ⟨b2, o2, none⟩ = some (.int .i64 y1) ∧ W.cell? ⟨b2, o2 + 1, none⟩ = some (.int .i64 y2)) (first | exact ⟨e0, e1, d0, d1⟩ | exact ⟨z0, z1, z2, z3⟩) ((go_at_call 21; with_reducible refine cmp_d (x1, x2) (y1, y2) hc Hk.drew ?_; intro w4 H4 I4; obtain ⟨z0, z1⟩ := HX.out w4 H4.right; obtain ⟨z2, z3⟩ := HYC.out w4 H4.right))
            clear e0 e1 d0 d1
            by_cases hc1 : c1 = 1
            · by_cases hc2 : c2 = 1
              · go_wp2_with (go_at_fn g; refine HY.out m (x1, x2) true true _ _ HM.out H4 ?_; intro w5 H5 I5)
                go_quiet (fail)
                go_wp2_with fail
                go_roundw
                case rel => exact ⟨l1, l2, m ++ [((x1, x2), true, true)], Lib.hid (readsP_tail h1.out o1 (fun h => absurd (List.eq_nil_of_length_eq_zero (by first | (have := F1.out; have := F2.out; have := L1.out; have := L2.out; omega) | (have := F1.out; have := F2.out; have := L1.out; have : ([] : List Pr).length = 0 := rfl; omega) | (have := F1.out; have := F2.out; have := L2.out; have : ([] : List Pr).length = 0 := rfl; omega))) h) _), Lib.hid (readsP_tail h2.out o2 (fun h => absurd (List.eq_nil_of_length_eq_zero (by first | (have := F1.out; have := F2.out; have := L1.out; have := L2.out; omega) | (have := F1.out; have := F2.out; have := L1.out; have : ([] : List Pr).length = 0 := rfl; omega) | (have := F1.out; have := F2.out; have := L2.out; have : ([] : List Pr).length = 0 := rfl; omega))) h) _), by simp only [vfit]; first | (have := F1.out; have := F2.out; have := L1.out; have := L2.out; omega) | (have := F1.out; have := F2.out; have := L1.out; have : ([] : List Pr).length = 0 := rfl; omega) | (have := F1.out; have := F2.out; have := L2.out; have : ([] : List Pr).length = 0 := rfl; omega), by simp only [vfit]; first | (have := F1.out; have := F2.out; have := L1.out; have := L2.out; omega) | (have := F1.out; have := F2.out; have := L1.out; have : ([] : List Pr).length = 0 := rfl; omega) | (have := F1.out; have := F2.out; have := L2.out; have : ([] : List Pr).length = 0 := rfl; omega), hm, H5.drewN _, ((Ik.drew.trans I4).trans I5).drewN _⟩
                case measure => simp only [vlen]; first | (have := F1.out; have := F2.out; have := L1.out; have := L2.out; omega) | (have := F1.out; have := F2.out; have := L1.out; have : ([] : List Pr).length = 0 := rfl; omega) | (have := F1.out; have := F2.out; have := L2.out; have : ([] : List Pr).length = 0 := rfl; omega)
              · go_wp2_with (go_at_fn g; refine HY.out m (x1, x2) true true _ _ HM.out H4 ?_; intro w5 H5 I5)
                go_quiet (fail)
                go_wp2_with fail
                go_roundw
                case rel => exact ⟨l1, l2, m ++ [((x1, x2), true, true)], Lib.hid (readsP_tail h1.out o1 (fun h => absurd (List.eq_nil_of_length_eq_zero (by first | (have := F1.out; have := F2.out; have := L1.out; have := L2.out; omega) | (have := F1.out; have := F2.out; have := L1.out; have : ([] : List Pr).length = 0 := rfl; omega) | (have := F1.out; have := F2.out; have := L2.out; have : ([] : List Pr).length = 0 := rfl; omega))) h) _), Lib.hid (readsP_tail h2.out (o2 + 2) (fun _ => rfl) _), by simp only [vfit]; first | (have := F1.out; have := F2.out; have := L1.out; have := L2.out; omega) | (have := F1.out; have := F2.out; have := L1.out; have : ([] : List Pr).length = 0 := rfl; omega) | (have := F1.out; have := F2.out; have := L2.out; have : ([] : List Pr).length = 0 := rfl; omega), by simp only [vfit]; first | (have := F1.out; have := F2.out; have := L1.out; have := L2.out; omega) | (have := F1.out; have := F2.out; have := L1.out; have : ([] : List Pr).length = 0 := rfl; omega) | (have := F1.out; have := F2.out; have := L2.out; have : ([] : List Pr).length = 0 := rfl; omega), hm, H5.drewN _, ((Ik.drew.trans I4).trans I5).drewN _⟩
                case measure => simp only [vlen]; first | (have := F1.out; have := F2.out; have := L1.out; have := L2.out; omega) | (have := F1.out; have := F2.out; have := L1.out; have : ([] : List Pr).length = 0 := rfl; omega) | (have := F1.out; have := F2.out; have := L2.out; have : ([] : List Pr).length = 0 := rfl; omega)
            · by_cases hc2 : c2 = 1
              · go_wp2_with (go_at_fn g; refine HY.out m (x1, x2) true true _ _ HM.out H4 ?_; intro w5 H5 I5)
                go_quiet (fail)
                go_wp2_with fail
                go_roundw
                case rel => exact ⟨l1, l2, m ++ [((x1, x2), true, true)], Lib.hid (readsP_tail h1.out (o1 + 2) (fun _ => rfl) _), Lib.hid (readsP_tail h2.out o2 (fun h => absurd (List.eq_nil_of_length_eq_zero (by first | (have := F1.out; have := F2.out; have := L1.out; have := L2.out; omega) | (have := F1.out; have := F2.out; have := L1.out; have : ([] : List Pr).length = 0 := rfl; omega) | (have := F1.out; have := F2.out; have := L2.out; have : ([] : List Pr).length = 0 := rfl; omega))) h) _), by simp only [vfit]; first | (have := F1.out; have := F2.out; have := L1.out; have := L2.out; omega) | (have := F1.out; have := F2.out; have := L1.out; have : ([] : List Pr).length = 0 := rfl; omega) | (have := F1.out; have := F2.out; have := L2.out; have : ([] : List Pr).length = 0 := rfl; omega), by simp only [vfit]; first | (have := F1.out; have := F2.out; have := L1.out; have := L2.out; omega) | (have := F1.out; have := F2.out; have := L1.out; have : ([] : List Pr).length = 0 := rfl; omega) | (have := F1.out; have := F2.out; have := L2.out; have : ([] : List Pr).length = 0 := rfl; omega), hm, H5.drewN _, ((Ik.drew.trans I4).trans I5).drewN _⟩
                case measure => simp only [vlen]; first | (have := F1.out; have := F2.out; have := L1.out; have := L2.out; omega) | (have := F1.out; have := F2.out; have := L1.out; have : ([] : List Pr).length = 0 := rfl; omega) | (have := F1.out; have := F2.out; have := L2.out; have : ([] : List Pr).length = 0 := rfl; omega)
              · go_wp2_with (go_at_fn g; refine HY.out m (x1, x2) true true _ _ HM.out H4 ?_; intro w5 H5 I5)
                go_quiet (fail)
                go_wp2_with fail
                go_roundw
                case rel => exact ⟨l1, l2, m ++ [((x1, x2), true, true)], Lib.hid (readsP_tail h1.out (o1 + 2) (fun _ => rfl) _), Lib.hid (readsP_tail h2.out (o2 + 2) (fun _ => rfl) _), by simp only [vfit]; first | (have := F1.out; have := F2.out; have := L1.out; have := L2.out; omega) | (have := F1.out; have := F2.out; have := L1.out; have : ([] : List Pr).length = 0 := rfl; omega) | (have := F1.out; have := F2.out; have := L2.out; have : ([] : List Pr).length = 0 := rfl; omega), by simp only [vfit]; first | (have := F1.out; have := F2.out; have := L1.out; have := L2.out; omega) | (have := F1.out; have := F2.out; have := L1.out; have : ([] : List Pr).length = 0 := rfl; omega) | (have := F1.out; have := F2.out; have := L2.out; have : ([] : List Pr).length = 0 := rfl; omega), hm, H5.drewN _, ((Ik.drew.trans I4).trans I5).drewN _⟩
                case measure => simp only [vlen]; first | (have := F1.out; have := F2.out; have := L1.out; have := L2.out; omega) | (have := F1.out; have := F2.out; have := L1.out; have : ([] : List Pr).length = 0 := rfl; omega) | (have := F1.out; have := F2.out; have := L2.out; have : ([] : List Pr).length = 0 := rfl; omega)
end
end Go.Proofs.YtabpgejjnphfcaaGreat
