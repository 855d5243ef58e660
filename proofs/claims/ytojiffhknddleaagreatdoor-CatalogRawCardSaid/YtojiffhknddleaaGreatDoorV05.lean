/-
  The check of bytes: what crc.Step, crc.Sum and the document's do, by their walks. It proves no statement by itself.
-/
import Derived.Test.YtojiffhknddleaaGreatDoorV04
import Derived.Laws.BitsAllLaws
import Derived.Lib.ConvBytes
namespace Go.Proofs.YtojiffhknddleaaGreatDoor
open Go.RowKit
set_option linter.unusedSimpArgs false
set_option linter.unusedVariables false

/-- The table lies there wherever F holds. -/
def Hv (F : Asn) : Prop := ∀ w, Sat F w → ∀ j, j < 16 → w.cell? ⟨1, j, none⟩ = some (.int .u32 (halves.getD j 0 : Nat))
theorem Hv.with {F G : Asn} (h : Hv F) : Hv (G * F) := fun w hw => h w hw.right

section
variable {F : Asn} {w : World} {R : Ending → World → Prop}

/-- '[]byte(s)': a row of its own; what is told of stays. -/
theorem bytes_new (e : TypeId) (s : ByteArray) (H : Sat F w) :
    Sat (pts w.heap.size (.cells (Lib.bytesCells w e s) e ((Lib.bytesCells w e s).size, (Lib.bytesCells w e s).size + 1)) * F) (Lib.bytesWorld w e s) :=
  H.fresh (Nat.le_refl _) (Lib.bytesWorld_at_new w e s) fun k hk => Lib.bytesWorld_at_old w e s k hk
theorem bytes_io (e : TypeId) (s : ByteArray) : Io w (Lib.bytesWorld w e s) := ⟨rfl, rfl, rfl, by rw [Lib.bytesWorld_size]; omega⟩

/-- What a byte's step leads to, byte by byte. -/
theorem getD_of_lt {l : List UInt8} {k : Nat} (h : k < l.length) : l.getD k 0 = l[k] := by simp [List.getD, h]
end
end Go.Proofs.YtojiffhknddleaaGreatDoor
