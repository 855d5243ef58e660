/-
  Rows of law 17's acts: K, U, V, T. It proves no statement by itself.
-/
import Derived.Test.YthbbdicdcmjpiaaGreatDoorR03
namespace Go.Proofs.YthbbdicdcmjpiaaGreatDoor
open Go.RowKit Go.Lib
abbrev Act17 := (Int × Int × Int) × Bool
def encA17 (x : Act17) : List Value := [.int .i64 x.1.1, .int .i64 x.1.2.1, .int .i64 x.1.2.2, .bool x.2]
theorem encA17_ok : Enc encA17 4 := ⟨fun _ => rfl, fun x u hu => by simp [encA17] at hu; rcases hu with rfl | rfl | rfl | rfl <;> rfl⟩
end Go.Proofs.YthbbdicdcmjpiaaGreatDoor
