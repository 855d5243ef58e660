/-
  The helpers of the statements of chapter 4: a page full of a byte, the example, whether acts are few. It proves no statement by itself.
-/
import Derived.Test.YtpccdadobnhpkaaDoorDiskY
namespace Go.Proofs.YtpccdadobnhpkaaDoor
open Go.RowKit
set_option linter.unusedSimpArgs false
set_option linter.unusedVariables false

theorem rp_add (m n : Nat) (b : UInt8) : rp m b ++ rp n b = rp (m + n) b := by
  apply ByteArray.ext
  simp [rp, List.replicate_append_replicate]

theorem rp_tail (n : Nat) (b : UInt8) : (rp n b).extract 1 n = rp (n - 1) b := by
  apply ByteArray.ext
  apply Array.ext'
  simp [rp]

theorem conv1 {P : Program} (src e dst : TypeId) (hs : P.underlying src = some (.slice e)) (he : P.underlying e = some (.int .u8)) (hd : P.underlying dst = some .string)
    (x : UInt8) (w : World) :
    (convert src dst (.slice (some ⟨w.heap.size, 0, none⟩) 1 1)).run P (w.alloc (.cells #[.int .u8 (x.toNat : Int)] e)) = .ok (.string (rp 1 x)) (w.alloc (.cells #[.int .u8 (x.toNat : Int)] e)) := by
  have := run_convert_bytes_arg (P := P) (w.alloc (.cells #[.int .u8 (x.toNat : Int)] e)) src e hs he w.heap.size 0 1 1 [(x.toNat : Int)] rfl (by
    intro i hi
    obtain rfl : i = 0 := by omega
    simp) dst hd
  simpa [strOfNums, rp] using this

/-- The text of page(b). -/
def pageS (b : UInt8) : ByteArray := if b.toNat % 16 = 15 then rp 255 b else rp 256 b
theorem pageS_size (b : UInt8) : (pageS b).size ≤ 256 := by unfold pageS; split <;> simp [rp_size]

section
variable {w : World} {R : Ending → World → Prop} {F : Asn}

/-! ### the document's example -/
end

def wk0 : Dk := Dk.new 2
def wk1 : Dk := wk0.write 0 (pageS 97)
def wk2 : Dk := wk1.write 0 (pageS 98)
def wk3 : Dk := wk2.write 1 (pageS 99)
def wk4 : Dk := wk3.crash [0, 2] 2 3
def wk5 : Dk := wk4.read 0
def wk6 : Dk := wk5.read 1
def wk7 : Dk := wk6.read 2
def wkY : ByteArray := (pageS 99).extract 0 3 ++ (rp 256 0).extract 3 256

theorem pg97 : pageS 97 = rp 256 97 := if_neg (by decide)
theorem pg98 : pageS 98 = rp 256 98 := if_neg (by decide)
theorem pg99 : pageS 99 = rp 256 99 := if_neg (by decide)

theorem wk1_eq : wk1 = ⟨[rp 256 0, rp 256 0], [(0, pageS 97)], -1, false, 0, 1⟩ := by simp [wk1, wk0, Dk.new, Dk.write, Dk.atE, pg97, rp_size]
theorem wk2_eq : wk2 = ⟨[rp 256 0, rp 256 0], [(0, pageS 97), (0, pageS 98)], -1, false, 0, 2⟩ := by simp [wk2, wk1_eq, Dk.write, Dk.atE, pg98, rp_size]
theorem wk3_eq : wk3 = ⟨[rp 256 0, rp 256 0], [(0, pageS 97), (0, pageS 98), (1, pageS 99)], -1, false, 0, 3⟩ := by simp [wk3, wk2_eq, Dk.write, Dk.atE, pg99, rp_size]

theorem rp_all (n m : Nat) (b : UInt8) (h : n ≤ m) : (rp n b).extract 0 m = rp n b := by
  apply ByteArray.ext
  apply Array.ext'
  simp [rp, Nat.min_eq_right h]
theorem rp_none (n m : Nat) (b : UInt8) (h : n ≤ m) : (rp n b).extract m n = ByteArray.empty := by
  apply ByteArray.ext
  apply Array.ext'
  simp [rp, Nat.sub_eq_zero_of_le h]
theorem rp_cut (n m k : Nat) (b : UInt8) (h : k ≤ n) : (rp n b).extract m k = rp (k - m) b := by
  apply ByteArray.ext
  apply Array.ext'
  simp [rp, Nat.min_eq_left h]
theorem append_none (a : ByteArray) : a ++ ByteArray.empty = a := by
  apply ByteArray.ext
  simp

theorem wk4_eq : wk4 = ⟨[pageS 97, wkY], [], -1, false, 0, 3⟩ := by
  have h1 : Dk.comes 2 3 0 = 256 := by decide
  have h2 : Dk.comes 2 3 2 = 3 := by decide
  simp [wk4, wk3_eq, Dk.crash, Dk.crashes, Dk.done, h1, h2, pg97, pg99, rp_all, rp_none, append_none, wkY]
theorem wk5_eq : wk5 = ⟨[pageS 97, wkY], [], -1, false, 1, 3⟩ := by simp [wk5, wk4_eq, Dk.read, Dk.atE]
theorem wk6_eq : wk6 = ⟨[pageS 97, wkY], [], -1, false, 2, 3⟩ := by simp [wk6, wk5_eq, Dk.read, Dk.atE]
theorem wk7_eq : wk7 = ⟨[pageS 97, wkY], [], -1, false, 2, 3⟩ := by simp [wk7, wk6_eq, Dk.read, Dk.atE]

theorem wkY_eq : wkY = rp 3 99 ++ rp 253 0 := by simp [wkY, pg99, rp_cut]
theorem wkY_size : wkY.size = 256 := by rw [wkY_eq, ByteArray.size_append, rp_size, rp_size]
theorem wkY_head : wkY.extract 0 4 = ⟨#[99, 99, 99, 0]⟩ := by
  rw [wkY_eq]
  decide +kernel

theorem wk_oks : wk0.Ok ∧ wk1.Ok ∧ wk2.Ok ∧ wk3.Ok ∧ wk4.Ok ∧ wk5.Ok ∧ wk6.Ok := by
  have h0 : wk0.Ok := Dk.new_ok 2 (by omega)
  have h1 := Dk.write_ok' h0 0 (pageS 97)
  have h2 := Dk.write_ok' h1 0 (pageS 98)
  have h3 := Dk.write_ok' h2 1 (pageS 99)
  have h4 := Dk.crash_ok' h3 [0, 2] 2 3
  have h5 := Dk.read_ok' h4 0
  exact ⟨h0, h1, h2, h3, h4, h5, Dk.read_ok' h5 1⟩
end Go.Proofs.YtpccdadobnhpkaaDoor
