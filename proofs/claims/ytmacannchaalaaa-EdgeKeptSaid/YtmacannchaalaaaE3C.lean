/-
  Edges: Cmp, by its walk. It proves no statement by itself.
-/
import Derived.Test.YtmacannchaalaaaE3W
import Derived.Test.YtmacannchaalaaaShelf
import Derived.Shelf.SlSortCmp.WholeK
import Derived.Deep.RegionHeld3
namespace Go.Proofs.Ytmacannchaalaaa
open Go.RowKit
set_option linter.unusedSimpArgs false
set_option linter.unusedVariables false

/-- What Cmp says. -/
def cmpP (a b : Pr) : Int := if Lib.compareInt a.1 b.1 ≠ 0 then Lib.compareInt a.1 b.1 else Lib.compareInt a.2 b.2

section
variable {F : Asn} {w : World} {R : Ending → World → Prop}
set_option maxRecDepth 100000 in
theorem or_two {b : Nat} {x y : Int} (lb : b < w.heap.size) (c0 : w.cell? ⟨b, 0, none⟩ = some (.int .i64 x)) (c1 : w.cell? ⟨b, 1, none⟩ = some (.int .i64 y)) (h : R (.returned (.int .i64 (if x ≠ 0 then x else y))) w) :
    Calls Try.prog 37 #[.slice (some ⟨b, 0, none⟩) 2 2] w R := by
  by_cases hx : x = 0
  · subst hx
    rw [if_neg (by simp)] at h
    by_cases hy : y = 0
    · subst hy
      go_enter Try.func37, Try.ntmps37
      go_wp2_with fail
      refine wp_loop_rounds 3 ?_
      rw [rounds_succ]
      go_wp2_with fail
      rw [rounds_succ]
      go_wp2_with fail
      rw [rounds_succ]
      go_wp2_with fail
      exact h
    · have hq : (y != 0) = true := by rw [bne_iff_ne]; exact hy
      go_enter Try.func37, Try.ntmps37
      go_wp2_with fail
      refine wp_loop_rounds 3 ?_
      rw [rounds_succ]
      go_wp2_with fail
      rw [rounds_succ]
      go_wp2_with fail
      exact h
  · rw [if_pos hx] at h
    have hq : (x != 0) = true := by rw [bne_iff_ne]; exact hx
    go_enter Try.func37, Try.ntmps37
    go_wp2_with fail
    refine wp_loop_rounds 3 ?_
    rw [rounds_succ]
    go_wp2_with fail
    exact h
theorem compare_any (x y : Int) (h : R (.returned (.int .i64 (Lib.compareInt x y))) w) : Calls Try.prog 38 #[.int .i64 x, .int .i64 y] w R := by
  have hcon := AnyG.cmp_Compare_int Try.cmpIntF x y w
  change Calls Try.prog 38 _ _ _ at hcon
  refine hcon.mono ?_
  rintro e w' ⟨rfl, rfl⟩
  exact h
theorem alloc3_grow (W : World) (A B C : Obj) : ((W.alloc A).alloc B).drew.alloc C = Go.Sort.grow (W.drewN 1) #[A, B, C] := by
  rw [Go.Sort.alloc_eq_grow, Go.Sort.alloc_eq_grow, Go.Sort.alloc_eq_grow]
  show Go.Sort.grow (Go.Sort.grow (Go.Sort.grow (W.drewN 1) #[A]) #[B]) #[C] = _
  rw [Go.Sort.grow_grow, Go.Sort.grow_grow]
  rfl
set_option maxRecDepth 100000 in
set_option maxHeartbeats 1000000 in
/-- Cmp lays blocks, draws, and turns nothing. -/
theorem cmp_world (a b : Pr) (W : World) : Calls Try.prog 18 #[.agg #[.int .i64 a.1, .int .i64 a.2], .agg #[.int .i64 b.1, .int .i64 b.2]] W fun e w' => e = .returned (.int .i64 (cmpP a b)) ∧ ∃ q os', w' = Go.Sort.grow (W.drewN q) os' := by
  obtain ⟨x, hx⟩ : ∃ x, Hid (x = Lib.compareInt a.1 b.1) := ⟨_, Lib.hid rfl⟩
  obtain ⟨y, hy⟩ : ∃ y, Hid (y = Lib.compareInt a.2 b.2) := ⟨_, Lib.hid rfl⟩
  have e : cmpP a b = if x ≠ 0 then x else y := by unfold cmpP; rw [hx.out, hy.out]
  obtain ⟨z, hz⟩ : ∃ z, Hid (z = if x ≠ 0 then x else y) := ⟨_, Lib.hid rfl⟩
  rw [e, ← hz.out]
  clear e
  obtain ⟨a1, a2⟩ := a
  obtain ⟨b1, b2⟩ := b
  have lbV : W.heap.size + 1 + 1 < (((W.alloc (.cells #[.int .i64 a1, .int .i64 a2] 25)).alloc (.cells #[.int .i64 b1, .int .i64 b2] 25)).drew.alloc (.cells #[.int .i64 x, .int .i64 y] 3)).heap.size := by simp
  have hV := heap_alloc_new ((W.alloc (.cells #[.int .i64 a1, .int .i64 a2] 25)).alloc (.cells #[.int .i64 b1, .int .i64 b2] 25)).drew (.cells #[.int .i64 x, .int .i64 y] 3)
  have sV : ((W.alloc (.cells #[.int .i64 a1, .int .i64 a2] 25)).alloc (.cells #[.int .i64 b1, .int .i64 b2] 25)).drew.heap.size = W.heap.size + 1 + 1 := by simp
  rw [sV] at hV
  have c0V := Sat.read hV 0
  have c1V := Sat.read hV 1
  have E0 : Sat emp W := ⟨fun _ => none, fun _ => rfl, fun _ _ h => by cases h⟩
  have E2 := ((E0.new (.cells #[.int .i64 a1, .int .i64 a2] 25)).new (.cells #[.int .i64 b1, .int .i64 b2] 25)).drew
  have z1 : (W.alloc (.cells #[.int .i64 a1, .int .i64 a2] 25)).heap.size = W.heap.size + 1 := by simp
  rw [z1] at E2
  have E3 := E2.alloc (.cells #[.int .i64 x, .int .i64 y] 3)
  have s2 := And.intro (Sat.read E2.right.left.at 0) (And.intro (Sat.read E2.right.left.at 1) (And.intro (Sat.read E2.left.at 0) (Sat.read E2.left.at 1)))
  have s3 := And.intro (Sat.read E3.right.left.at 0) (And.intro (Sat.read E3.right.left.at 1) (And.intro (Sat.read E3.left.at 0) (Sat.read E3.left.at 1)))
  clear E0 E2 E3 z1
  have OR := Lib.hid (fun (R : Ending → World → Prop) (h : R (.returned (.int .i64 z)) _) => or_two (R := R) lbV c0V c1V (by rw [← hz.out]; exact h))
  have WW := Lib.hid (alloc3_grow W (.cells #[.int .i64 a1, .int .i64 a2] 25) (.cells #[.int .i64 b1, .int .i64 b2] 25) (.cells #[.int .i64 x, .int .i64 y] 3))
  clear lbV hV sV c0V c1V
  go_enter Try.func18, Try.ntmps18
  go_wp2_with fail
  go_region_held3 (fun V => V.cell? ⟨W.heap.size, 0, none⟩ = some (.int .i64 a1) ∧ V.cell? ⟨W.heap.size, 1, none⟩ = some (.int .i64 a2) ∧ V.cell? ⟨W.heap.size + 1, 0, none⟩ = some (.int .i64 b1) ∧ V.cell? ⟨W.heap.size + 1, 1, none⟩ = some (.int .i64 b2)) (first | exact s2 | exact s3) (first
    | (go_at_call 38; with_reducible refine compare_any a1 b1 ?_; rw [← hx.out])
    | (go_at_call 38; with_reducible refine compare_any a2 b2 ?_; rw [← hy.out])
    | (go_at_call 37; refine OR.out _ ?_))
  all_goals go_wp2_with fail
  all_goals go_ret
  all_goals exact ⟨rfl, 1, _, WW.out⟩
theorem compareInt_iff (x y : Int) : (Lib.compareInt x y < 0 ↔ x < y) ∧ (Lib.compareInt x y = 0 ↔ x = y) ∧ (0 < Lib.compareInt x y ↔ y < x) := by
  unfold Lib.compareInt
  refine ⟨?_, ?_, ?_⟩ <;> (split <;> (try split) <;> simp <;> omega)
theorem cmpP_lt (a b : Pr) : cmpP a b < 0 ↔ Eg.less a b = true := by
  have h1 := compareInt_iff a.1 b.1
  have h2 := compareInt_iff a.2 b.2
  unfold cmpP
  rw [Eg.less_iff]
  split <;> omega
theorem cmpP_zero (a b : Pr) : cmpP a b = 0 ↔ a = b := by
  have h1 := compareInt_iff a.1 b.1
  have h2 := compareInt_iff a.2 b.2
  unfold cmpP
  constructor
  · intro h
    split at h
    · omega
    · exact Prod.ext (by omega) (by omega)
  · rintro rfl
    split <;> omega
theorem cmpP_gt (a b : Pr) : 0 < cmpP a b ↔ Eg.less b a = true := by
  have h1 := compareInt_iff a.1 b.1
  have h2 := compareInt_iff a.2 b.2
  unfold cmpP
  rw [Eg.less_iff]
  split <;> omega
theorem lt_less (a b : Pr) : ltOf cmpP a b = Eg.less a b := by
  unfold ltOf
  rw [Bool.eq_iff_iff, decide_eq_true_eq]
  exact cmpP_lt a b
theorem swo_less : Go.Sort.SWO (ltOf cmpP) where
  irrefl x := by rw [lt_less]; exact Eg.less_irrefl x
  trans x y z h1 h2 := by rw [lt_less] at *; exact Eg.less_trans h1 h2
  ntrans x y z h1 h2 := by
    rw [lt_less] at *
    rw [Bool.eq_false_iff, ne_eq, Eg.less_iff] at *
    omega
/-- A pair's two cells. -/
def encP (x : Pr) : List Value := [.int .i64 x.1, .int .i64 x.2]
theorem cmp_lays (blk off size : Nat) (w : World) : CmpLays Try.prog 18 #[] encP 2 cmpP blk off size w := fun _ _ _ _ x y => cmp_world x y _
end
end Go.Proofs.Ytmacannchaalaaa
