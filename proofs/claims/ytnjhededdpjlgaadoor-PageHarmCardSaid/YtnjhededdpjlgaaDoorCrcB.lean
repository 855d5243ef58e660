/-
  The check of bytes tells bursts: two texts that differ in four bytes in a row alone have unlike checks. Plain. It proves no statement by itself.
-/
import Derived.Test.YtnjhededdpjlgaaDoorCrc
namespace Go.Proofs.YtnjhededdpjlgaaDoor
set_option linter.unusedSimpArgs false
set_option linter.unusedVariables false

theorem xor_low_bit (n : Nat) : n / 2 * 2 + n % 2 = n := by omega
theorem bit1_top {n : Nat} (h : n < 2 ^ 32) : (bit1 n).testBit 31 = decide (n % 2 = 1) := by
  unfold bit1
  have h2 : (n / 2).testBit 31 = false := Nat.testBit_lt_two_pow (by omega)
  split
  · rename_i h1
    rw [Nat.testBit_xor, h2, h1]
    decide
  · rename_i h1
    rw [h2]
    simp [h1]
theorem bit1_inj {a b : Nat} (ha : a < 2 ^ 32) (hb : b < 2 ^ 32) (h : bit1 a = bit1 b) : a = b := by
  have t := bit1_top ha
  rw [h, bit1_top hb] at t
  have hp : a % 2 = b % 2 := by
    have h1 : a % 2 = 0 ∨ a % 2 = 1 := by omega
    have h2 : b % 2 = 0 ∨ b % 2 = 1 := by omega
    rcases h1 with h1 | h1 <;> rcases h2 with h2 | h2 <;> simp_all
  have hd : a / 2 = b / 2 := by
    unfold bit1 at h
    by_cases h1 : a % 2 = 1
    · rw [if_pos h1, if_pos (by omega)] at h
      have := congrArg (· ^^^ 3988292384) h
      simpa [Nat.xor_assoc] using this
    · rw [if_neg h1, if_neg (by omega)] at h
      exact h
  omega
theorem bit4_lt {n : Nat} (h : n < 2 ^ 32) : bit4 n < 2 ^ 32 := bit1_lt (bit1_lt (bit1_lt (bit1_lt h)))
theorem bit4_inj {a b : Nat} (ha : a < 2 ^ 32) (hb : b < 2 ^ 32) (h : bit4 a = bit4 b) : a = b :=
  bit1_inj ha hb (bit1_inj (bit1_lt ha) (bit1_lt hb) (bit1_inj (bit1_lt (bit1_lt ha)) (bit1_lt (bit1_lt hb)) (bit1_inj (bit1_lt (bit1_lt (bit1_lt ha))) (bit1_lt (bit1_lt (bit1_lt hb))) h)))
def bit8 (n : Nat) : Nat := bit4 (bit4 n)
theorem bit8_xor (a b : Nat) : bit8 (a ^^^ b) = bit8 a ^^^ bit8 b := by simp only [bit8, bit4_xor]
theorem bit8_lt {n : Nat} (h : n < 2 ^ 32) : bit8 n < 2 ^ 32 := bit4_lt (bit4_lt h)
theorem bit8_inj {a b : Nat} (ha : a < 2 ^ 32) (hb : b < 2 ^ 32) (h : bit8 a = bit8 b) : a = b := bit4_inj ha hb (bit4_inj (bit4_lt ha) (bit4_lt hb) h)
theorem bit8_high (q : Nat) : bit8 (256 * q) = q := by
  unfold bit8
  rw [show 256 * q = 16 * (16 * q) from by omega, bit4_high, bit4_high]
theorem step_bit8 (c : Nat) (b : UInt8) : crcStep c b = bit8 (c ^^^ b.toNat) := by unfold crcStep bit8; rw [nib_bit4, nib_bit4]

theorem u8_lt32 (b : UInt8) : b.toNat < 2 ^ 32 := by have := b.toNat_lt; omega
theorem xor_right_inj {a b c : Nat} (h : a ^^^ c = b ^^^ c) : a = b := by
  have := congrArg (· ^^^ c) h
  simpa [Nat.xor_assoc] using this
theorem step_inj {a c : Nat} (b : UInt8) (ha : a < 2 ^ 32) (hc : c < 2 ^ 32) (h : crcStep a b = crcStep c b) : a = c := by
  rw [step_bit8, step_bit8] at h
  exact xor_right_inj (bit8_inj (Nat.xor_lt_two_pow ha (u8_lt32 b)) (Nat.xor_lt_two_pow hc (u8_lt32 b)) h)
theorem from_inj : ∀ (l : List UInt8) {a c : Nat}, a < 2 ^ 32 → c < 2 ^ 32 → crcFrom a l = crcFrom c l → a = c
  | [], _, _, _, _, h => h
  | b :: l, a, c, ha, hc, h => step_inj b ha hc (from_inj l (crcStep_lt ha b) (crcStep_lt hc b) h)

/-- Four bytes as a number, the first one last. -/
def wd (a b c d : UInt8) : Nat := a.toNat ^^^ 256 * (b.toNat ^^^ 256 * (c.toNat ^^^ 256 * d.toNat))
theorem mul256_xor (a b : Nat) : 256 * (a ^^^ b) = 256 * a ^^^ 256 * b := by
  have h : ∀ n : Nat, 256 * n = n <<< 8 := fun n => by rw [Nat.shiftLeft_eq]; omega
  rw [h, h, h, Nat.shiftLeft_xor_distrib]
theorem step_in (c q : Nat) (a : UInt8) : crcStep c a ^^^ q = bit8 (c ^^^ (a.toNat ^^^ 256 * q)) := by
  rw [step_bit8]
  conv => lhs; rw [← bit8_high q]
  rw [← bit8_xor, Nat.xor_assoc]
theorem four (s : Nat) (a b c d : UInt8) : crcFrom s [a, b, c, d] = bit8 (bit8 (bit8 (bit8 (s ^^^ wd a b c d)))) := by
  show crcStep (crcStep (crcStep (crcStep s a) b) c) d = _
  rw [step_bit8 _ d, step_in _ d.toNat c, step_in, step_in]
  rfl
theorem wd_eq (a b c d : UInt8) : wd a b c d = a.toNat + 256 * (b.toNat + 256 * (c.toNat + 256 * d.toNat)) := by
  have e : ∀ (x : UInt8) (q : Nat), x.toNat ^^^ 256 * q = x.toNat + 256 * q := by
    intro x q
    rw [Nat.xor_comm, Nat.add_comm]
    apply Nat.eq_of_testBit_eq
    intro i
    have hx := x.toNat_lt
    rw [Nat.testBit_xor, show (256 : Nat) = 2 ^ 8 from rfl, Nat.testBit_two_pow_mul_add _ (by omega), Nat.testBit_two_pow_mul]
    by_cases hi : i < 8
    · simp [hi, Nat.not_le.2 hi]
    · have : x.toNat.testBit i = false := Nat.testBit_lt_two_pow (Nat.lt_of_lt_of_le hx (Nat.pow_le_pow_right (by decide) (by omega)))
      simp [hi, Nat.le_of_not_lt hi, this]
  unfold wd
  rw [e, e, e]
theorem wd_lt (a b c d : UInt8) : wd a b c d < 2 ^ 32 := by
  rw [wd_eq]
  have := a.toNat_lt; have := b.toNat_lt; have := c.toNat_lt; have := d.toNat_lt
  omega
theorem wd_inj {a b c d a' b' c' d' : UInt8} (h : wd a b c d = wd a' b' c' d') : a = a' ∧ b = b' ∧ c = c' ∧ d = d' := by
  rw [wd_eq, wd_eq] at h
  have := a.toNat_lt; have := b.toNat_lt; have := c.toNat_lt; have := d.toNat_lt
  have := a'.toNat_lt; have := b'.toNat_lt; have := c'.toNat_lt; have := d'.toNat_lt
  exact ⟨UInt8.toNat_inj.1 (by omega), UInt8.toNat_inj.1 (by omega), UInt8.toNat_inj.1 (by omega), UInt8.toNat_inj.1 (by omega)⟩
theorem four_inj {s : Nat} (hs : s < 2 ^ 32) {a b c d a' b' c' d' : UInt8} (h : crcFrom s [a, b, c, d] = crcFrom s [a', b', c', d']) : [a, b, c, d] = [a', b', c', d'] := by
  rw [four, four] at h
  have h1 := Nat.xor_lt_two_pow hs (wd_lt a b c d)
  have h2 := Nat.xor_lt_two_pow hs (wd_lt a' b' c' d')
  have h3 := bit8_inj h1 h2 (bit8_inj (bit8_lt h1) (bit8_lt h2) (bit8_inj (bit8_lt (bit8_lt h1)) (bit8_lt (bit8_lt h2)) (bit8_inj (bit8_lt (bit8_lt (bit8_lt h1))) (bit8_lt (bit8_lt (bit8_lt h2))) h)))
  rw [Nat.xor_comm s, Nat.xor_comm s] at h3
  obtain ⟨rfl, rfl, rfl, rfl⟩ := wd_inj (xor_right_inj h3)
  rfl
/-- A burst of four bytes is told. -/
theorem burst (p q : List UInt8) {a b c d a' b' c' d' : UInt8} (h : crcL (p ++ ([a, b, c, d] ++ q)) = crcL (p ++ ([a', b', c', d'] ++ q))) : [a, b, c, d] = [a', b', c', d'] := by
  unfold crcL at h
  have h := xor_right_inj h
  rw [crcFrom_append, crcFrom_append, crcFrom_append, crcFrom_append] at h
  have hs : crcFrom 4294967295 p < 2 ^ 32 := crcFrom_lt p (by decide)
  exact four_inj hs (from_inj q (crcFrom_lt _ hs) (crcFrom_lt _ hs) h)
end Go.Proofs.YtnjhededdpjlgaaDoor
