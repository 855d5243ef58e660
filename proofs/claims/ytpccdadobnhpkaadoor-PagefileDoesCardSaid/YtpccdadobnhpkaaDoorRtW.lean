/-
  Roots and their bytes: what Encode does, by its walk. It proves no statement by itself.
-/
import Derived.Test.YtpccdadobnhpkaaDoorRt
namespace Go.Proofs.YtpccdadobnhpkaaDoor
open Go.RowKit
set_option linter.unusedSimpArgs false
set_option linter.unusedVariables false

section
variable {F : Asn} {w : World} {R : Ending → World → Prop}

theorem repeat0 (H : Sat F w) (n : Nat) (hn : n ≤ 100000) (h : ∀ w', Sat F w' → Io w w' → R (.returned (.string (tx (noughts n)))) w') :
    Calls Tryd.prog 30 #[.string ⟨#[0]⟩, .int .i64 (n : Int)] w R := by
  have hr := Tryd.strings_Repeat ⟨#[0]⟩ n w (by omega) (by show 1 * n ≤ _; omega)
  have e : Lib.repeatL (⟨#[0]⟩ : ByteArray).data.toList n = noughts n := by
    have : ∀ n, Lib.repeatL [0] n = noughts n := by
      intro n
      induction n with
      | zero => rfl
      | succ n ih => rw [Lib.repeatL, ih]; rfl
    exact this n
  rw [e] at hr
  exact hr.mono fun x w' ⟨he, hb⟩ => by subst he; exact h w' (below_sat H hb) (below_io hb)

theorem putE_yes {k : Nat} {n : Int} (h : fits k n = true) : putE k n = 0 := by unfold putE; rw [if_pos h]
theorem putE_no {k : Nat} {n : Int} (h : fits k n = false) : putE k n = 1 := by unfold putE; rw [h]; rfl
theorem putS_yes {k : Nat} {n : Int} (h : fits k n = true) : putS k n = tx (be k n.toNat) := by unfold putS; rw [if_pos h]