/-
  The model of the index: ask, by its walk. It proves no statement by itself.
-/
import Derived.Test.YtabpgejjnphfcaaGreatQ26
import Derived.Test.YtabpgejjnphfcaaGreatQ31
namespace Go.Proofs.YtabpgejjnphfcaaGreat
open Go.RowKit Go.Lib Go.MapKept
open Md (Nm St)
set_option linter.unusedSimpArgs false
set_option linter.unusedVariables false
set_option linter.unusedSectionVars false
/-- The block of a version. -/
def VerB (b : Nat) (pr : Int) (a : Option Addr) (n c : Nat) : Asn := pts b (.cells #[.int .i64 pr, .slice a n c] 69 (0, 0))
theorem verE_vtx (v : Int) : verE v = if Md.vtx v = true then 0 else 30 := by
  unfold verE Md.vtx
  by_cases h : 0 ≤ v ∧ v < 1048576 <;> simp [h]
theorem row_fit {e : TypeId} {sz : Nat} {v : Value} {n : Nat} {xs : List Value} {F : Asn} {w : World} (H : Sat (Row e sz v n xs * F) w) : v.oneCell' = true := by
  obtain ⟨_, ⟨rfl, _⟩ | ⟨g, cap, cur, rfl, _⟩⟩ := sat_row.1 H <;> rfl
theorem fail_e {F : Asn} {w : World} {R : Ending → World → Prop} (e : Int) {e' : Int} (he : e' = e) (H : Sat F w) (h : ∀ w', Sat F w' → Io w w' → R (.returned (ansV (Md.fail e) nil4)) w') : Calls Tryz.prog 35 #[.int .i64 e'] w R := by
  subst he
  exact fail_any _ H h
theorem vertex_e {w : World} {R : Ending → World → Prop} (v : Int) {e : Int} (he : Hid (e = verE v)) (h : R (.returned (.int .i64 e)) w) : Calls Tryz.prog 66 #[.int .i64 v] w R := vertex_any v (by rw [← he.out]; exact h)
theorem row_slice2 {e : TypeId} {sz : Nat} {v : Value} {n : Nat} {xs : List Value} {F : Asn} {w : World} (H : Sat (Row e sz v n xs * F) w) : ∃ a c, v = .slice a n c := by
  obtain ⟨_, ⟨rfl, rfl, _⟩ | ⟨g, cap, cur, rfl, _⟩⟩ := sat_row.1 H
  · exact ⟨_, _, rfl⟩
  · exact ⟨_, _, rfl⟩
end Go.Proofs.YtabpgejjnphfcaaGreat
