/-
  Edges: Cmp, by its walk. It proves no statement by itself.
-/
import Derived.Test.YthbbdicdcmjpiaaGreatDoorQ35
import Derived.Test.YthbbdicdcmjpiaaGreatDoorKShelf
import Derived.Shelf.SlSortCmp.WholeK
import Derived.Deep.RegionHeld3
namespace Go.Proofs.YthbbdicdcmjpiaaGreatDoor
open Go.RowKit
set_option linter.unusedSimpArgs false
set_option linter.unusedVariables false

/-- What Cmp says. -/
def cmpP (a b : Pr) : Int := if Lib.compareInt a.1 b.1 ≠ 0 then Lib.compareInt a.1 b.1 else Lib.compareInt a.2 b.2

section
variable {F : Asn} {w : World} {R : Ending → World → Prop}
theorem compare_any (x y : Int) (h : R (.returned (.int .i64 (Lib.compareInt x y))) w) : Calls Tryz.prog 147 #[.int .i64 x, .int .i64 y] w R := by
  have hcon := AnyG.cmp_Compare_int Tryz.cmpIntF x y w
  change Calls Tryz.prog 147 _ _ _ at hcon
  refine hcon.mono ?_
  rintro e w' ⟨rfl, rfl⟩
  exact h
theorem alloc3_grow (W : World) (A B C : Obj) : ((W.alloc A).alloc B).drew.alloc C = Go.Sort.grow (W.drewN 1) #[A, B, C] := by
  rw [Go.Sort.alloc_eq_grow, Go.Sort.alloc_eq_grow, Go.Sort.alloc_eq_grow]
  show Go.Sort.grow (Go.Sort.grow (Go.Sort.grow (W.drewN 1) #[A]) #[B]) #[C] = _
  rw [Go.Sort.grow_grow, Go.Sort.grow_grow]
  rfl
theorem compareInt_iff (x y : Int) : (Lib.compareInt x y < 0 ↔ x < y) ∧ (Lib.compareInt x y = 0 ↔ x = y) ∧ (0 < Lib.compareInt x y ↔ y < x) := by
  unfold Lib.compareInt
  refine ⟨?_, ?_, ?_⟩ <;> (split <;> (try split) <;> simp <;> omega)
theorem cmpP_lt (a b : Pr) : cmpP a b < 0 ↔ Eg.less a b = true := by
  have h1 := compareInt_iff a.1 b.1
  have h2 := compareInt_iff a.2 b.2
  unfold cmpP
  rw [Eg.less_iff]
  split <;> omega
theorem cmpP_zero (a b : Pr) : cmpP a b = 0 ↔ a = b := by
  have h1 := compareInt_iff a.1 b.1
  have h2 := compareInt_iff a.2 b.2
  unfold cmpP
  constructor
  · intro h
    split at h
    · omega
    · exact Prod.ext (by omega) (by omega)
  · rintro rfl
    split <;> omega
theorem cmpP_gt (a b : Pr) : 0 < cmpP a b ↔ Eg.less b a = true := by
  have h1 := compareInt_iff a.1 b.1
  have h2 := compareInt_iff a.2 b.2
  unfold cmpP
  rw [Eg.less_iff]
  split <;> omega
theorem lt_less (a b : Pr) : ltOf cmpP a b = Eg.less a b := by
  unfold ltOf
  rw [Bool.eq_iff_iff, decide_eq_true_eq]
  exact cmpP_lt a b
theorem swo_less : Go.Sort.SWO (ltOf cmpP) where
  irrefl x := by rw [lt_less]; exact Eg.less_irrefl x
  trans x y z h1 h2 := by rw [lt_less] at *; exact Eg.less_trans h1 h2
  ntrans x y z h1 h2 := by
    rw [lt_less] at *
    rw [Bool.eq_false_iff, ne_eq, Eg.less_iff] at *
    omega
/-- A pair's two cells. -/
def encP (x : Pr) : List Value := [.int .i64 x.1, .int .i64 x.2]
end
end Go.Proofs.YthbbdicdcmjpiaaGreatDoor
