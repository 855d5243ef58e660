/-
  The check of bytes: what crc.Step, crc.Sum and the document's do, by their walks. It proves no statement by itself.
-/
import Derived.Test.YtmacannchaalaaaCod
import Derived.Laws.BitsAllLaws
import Derived.Lib.ConvBytes
namespace Go.Proofs.Ytmacannchaalaaa
open Go.RowKit
set_option linter.unusedSimpArgs false
set_option linter.unusedVariables false

section
variable {F : Asn} {w : World} {R : Ending → World → Prop}

/-! ### crc.Sum -/

/-- '[]byte(s)': a row of its own; what is told of stays. -/
theorem bytes_new (e : TypeId) (s : ByteArray) (H : Sat F w) :
    Sat (pts w.heap.size (.cells (Lib.bytesCells w e s) e ((Lib.bytesCells w e s).size, (Lib.bytesCells w e s).size + 1)) * F) (Lib.bytesWorld w e s) :=
  H.fresh (Nat.le_refl _) (Lib.bytesWorld_at_new w e s) fun k hk => Lib.bytesWorld_at_old w e s k hk
theorem bytes_io (e : TypeId) (s : ByteArray) : Io w (Lib.bytesWorld w e s) := ⟨rfl, rfl, rfl, by rw [Lib.bytesWorld_size]; omega⟩

/-- What a byte's step leads to, byte by byte. -/
theorem getD_of_lt {l : List UInt8} {k : Nat} (h : k < l.length) : l.getD k 0 = l[k] := by simp [List.getD, h]
theorem crc_next (s : ByteArray) (k : Nat) (h : k < s.size) : crcFrom 4294967295 (s.data.toList.take (k + 1)) = crcStep (crcFrom 4294967295 (s.data.toList.take k)) (s.data.toList.getD k 0) := by
  have hk : k < s.data.toList.length := h
  rw [List.take_succ_eq_append_getElem hk, crcFrom_snoc, getD_of_lt hk]

theorem i64_xor_all (c : Nat) (hc : c < 4294967296) : bits .xor .i64 (c : Int) 4294967295 = ((c ^^^ 4294967295 : Nat) : Int) := by
  have hx : c ^^^ 4294967295 < 2 ^ 32 := Nat.xor_lt_two_pow (by omega) (by decide)
  show IntKind.i64.wrap ((BitVec.ofInt 64 (c : Int) ^^^ BitVec.ofInt 64 4294967295).toNat : Int) = _
  rw [BitVec.toNat_xor, BitVec.ofInt_natCast, BitVec.toNat_ofNat, Nat.mod_eq_of_lt (by omega), show (BitVec.ofInt 64 4294967295).toNat = 4294967295 from rfl]
  exact IntWalk.i64_in _ (by omega)

/-! ### the document's -/

/-- Some bits' steps. -/
def bits1 : Nat → Nat → Nat
  | 0, n => n
  | k + 1, n => bit1 (bits1 k n)
theorem bits1_lt {n : Nat} (h : n < 2 ^ 32) : ∀ k, bits1 k n < 2 ^ 32
  | 0 => h
  | k + 1 => bit1_lt (bits1_lt h k)
theorem bits1_eight (c : Nat) (b : UInt8) : bits1 8 (c ^^^ b.toNat) = crcStep c b := (crcStep_bits c b).symm