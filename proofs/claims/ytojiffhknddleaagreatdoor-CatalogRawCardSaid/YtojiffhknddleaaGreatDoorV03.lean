/-
  Numbers as bytes, and the check of bytes, in plain words. No program in sight. It proves no statement by itself.
-/
import Derived.Test.YtojiffhknddleaaGreatDoorV01
namespace Go.Proofs.YtojiffhknddleaaGreatDoor
set_option linter.unusedSimpArgs false
set_option linter.unusedVariables false

/-! ### numbers as bytes -/

/-- The last 'size' bytes of n, the greatest first. -/
def be : Nat → Nat → List UInt8
  | 0, _ => []
  | k + 1, n => be k (n / 256) ++ [UInt8.ofNat (n % 256)]

/-- The number of bytes. -/
def un (l : List UInt8) : Nat := l.foldl (fun n c => n * 256 + c.toNat) 0

theorem be_length : ∀ k n, (be k n).length = k
  | 0, _ => rfl
  | k + 1, n => by simp [be, be_length k]

theorem un_snoc (l : List UInt8) (c : UInt8) : un (l ++ [c]) = un l * 256 + c.toNat := by simp [un]

theorem un_be : ∀ k n, un (be k n) = n % 256 ^ k
  | 0, n => by simp [be, un, Nat.mod_one]
  | k + 1, n => by
    rw [be, un_snoc, un_be k]
    have e : (UInt8.ofNat (n % 256)).toNat = n % 256 := by simp
    rw [e, Nat.pow_succ, Nat.mul_comm (256 ^ k) 256, Nat.mod_mul]
    omega

theorem un_lt : ∀ l : List UInt8, un l < 256 ^ l.length := by
  intro l
  have key : ∀ (l : List UInt8) (a : Nat), (l.foldl (fun n c => n * 256 + c.toNat) a) < (a + 1) * 256 ^ l.length := by
    intro l
    induction l with
    | nil => intro a; simp
    | cons c l ih =>
      intro a
      have h := ih (a * 256 + c.toNat)
      have hc := c.toNat_lt
      simp only [List.foldl_cons, List.length_cons]
      refine Nat.lt_of_lt_of_le h ?_
      rw [Nat.pow_succ, Nat.mul_comm (256 ^ l.length) 256, ← Nat.mul_assoc]
      exact Nat.mul_le_mul_right _ (by omega)
  have := key l 0
  simpa [un] using this

/-- What half a byte's steps make. -/
def halves : List Nat := [0, 498536548, 997073096, 651767980, 1994146192, 1802195444, 1303535960, 1342533948, 3988292384, 4027552580, 3604390888, 3412177804, 2607071920, 2262029012, 2685067896, 3183342108]
end Go.Proofs.YtojiffhknddleaaGreatDoor
