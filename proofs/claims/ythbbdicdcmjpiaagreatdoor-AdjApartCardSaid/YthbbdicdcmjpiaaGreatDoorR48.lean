/-
  AdjDoes, by its walk. It proves no statement by itself.
-/
import Derived.Test.YthbbdicdcmjpiaaGreatDoorR47
namespace Go.Proofs.YthbbdicdcmjpiaaGreatDoor
open Go.RowKit Go.Lib
set_option linter.unusedSimpArgs false
set_option linter.unusedVariables false
set_option linter.unusedSectionVars false
section
variable {a s : Nat} {c : Cq} {F : Asn} {w : World} {R : Ending → World → Prop} {A T : List Pr} {q g : Nat}
theorem does_same {ve va : Value} {X : Asn} (hA : A.length ≤ 1000) (H : Sat (RowP ve A * (RowP va A * X)) w) (h : ∀ w', Sat (RowP ve A * (RowP va A * X)) w' → Io w w' → R (.returned (.bool true)) w') :
    Calls Tryz.prog 18 #[ve, va] w R := rsame_any (readsP_row H (by omega)) (ask_tree hA H) (Lib.hid (by simp)) H h
end
section
variable {F : Asn} {w : World} {R : Ending → World → Prop}
end
end Go.Proofs.YthbbdicdcmjpiaaGreatDoor
