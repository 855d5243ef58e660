/-
  Rows of bytes that are as long are in the order of their numbers. Plain. It proves no statement by itself.
-/
import Derived.Test.YtojiffhknddleaaGreatDoorV03
namespace Go.Proofs.YtojiffhknddleaaGreatDoor
set_option linter.unusedSimpArgs false
set_option linter.unusedVariables false
theorem foldl_un (l : List UInt8) : ∀ n : Nat, l.foldl (fun n c => n * 256 + c.toNat) n = n * 256 ^ l.length + un l := by
  induction l with
  | nil => intro n; simp [un]
  | cons c l ih =>
    intro n
    unfold un
    rw [List.foldl_cons, List.foldl_cons, ih, ih, List.length_cons, Nat.pow_succ, Nat.add_mul, Nat.zero_mul, Nat.zero_add, Nat.mul_assoc, Nat.mul_comm 256, Nat.add_assoc]
theorem un_cons (c : UInt8) (l : List UInt8) : un (c :: l) = c.toNat * 256 ^ l.length + un l := by
  have := foldl_un l c.toNat
  unfold un at this ⊢
  rw [List.foldl_cons, Nat.zero_mul, Nat.zero_add]
  exact this
/-- Rows of bytes that are as long are in the order of their numbers. -/
theorem bytesLess_un : ∀ (l m : List UInt8), l.length = m.length → Op.bytesLess l m = decide (un l < un m)
  | [], [], _ => by simp [Op.bytesLess, un]
  | a :: l, b :: m, h => by
    have hl : l.length = m.length := by simpa using h
    have ih := bytesLess_un l m hl
    have h1 := un_lt l
    have h2 := un_lt m
    rw [Op.bytesLess, ih, un_cons, un_cons, hl]
    rw [hl] at h1
    generalize 256 ^ m.length = k at *
    have ha : (a < b) ↔ a.toNat < b.toNat := UInt8.lt_iff_toNat_lt
    have hb : (a == b) = decide (a.toNat = b.toNat) := by
      rw [Bool.eq_iff_iff, beq_iff_eq, decide_eq_true_eq]
      exact UInt8.toNat_inj.symm
    rw [hb]
    generalize a.toNat = x at *
    generalize b.toNat = y at *
    rcases Nat.lt_trichotomy x y with hxy | hxy | hxy
    · have : x * k + un l < y * k + un m := by
        have := Nat.mul_le_mul_right k (show x + 1 ≤ y from hxy)
        rw [Nat.add_mul] at this
        omega
      simp [ha, hxy, this]
    · subst hxy
      have : (x * k + un l < x * k + un m) ↔ un l < un m := by omega
      simp [ha, this]
    · have : ¬ x * k + un l < y * k + un m := by
        have := Nat.mul_le_mul_right k (show y + 1 ≤ x from hxy)
        rw [Nat.add_mul] at this
        omega
      simp [ha, this]
      omega
  | [], _ :: _, h => by simp at h
  | _ :: _, [], h => by simp at h
end Go.Proofs.YtojiffhknddleaaGreatDoor
