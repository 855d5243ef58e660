/-
  What the document's lists make of Make and Drop, plain. No program in sight. It proves no statement by itself.
-/
import Derived.Test.YtojiffhknddleaaGreatDoorV35
namespace Go.Proofs.YtojiffhknddleaaGreatDoor
open Go.RowKit Go.Lib
set_option linter.unusedSimpArgs false
set_option linter.unusedVariables false
namespace Md
def mk (V : List Ver) (B : List Br) (n : Nm) (head : Int) : Int × List Br :=
  if nameOk n = false then (193, B) else
  if bplace B n < B.length then (192, B) else
  if ¬ vplace V head < V.length then (190, B) else
  if 64 ≤ B.length then (195, B) else
  (0, B.take (bput B n) ++ ⟨n, head⟩ :: B.drop (bput B n))
def drp (V : List Ver) (B : List Br) (id : Int) : Int × List Ver :=
  if ¬ vplace V id < V.length then (190, V) else
  if B.any (fun b => decide (b.head = id)) then (194, V) else
  (0, V.filter fun v => !decide (v.id = id))
end Md
end Go.Proofs.YtojiffhknddleaaGreatDoor
