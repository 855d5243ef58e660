/-
  Numbers as bytes, and the check of bytes, in plain words. No program in sight. It proves no statement by itself.
-/
import Derived.Test.YthbbdicdcmjpiaaGreatDoorQ01
namespace Go.Proofs.YthbbdicdcmjpiaaGreatDoor
set_option linter.unusedSimpArgs false
set_option linter.unusedVariables false

/-! ### numbers as bytes -/

/-- The last 'size' bytes of n, the greatest first. -/
def be : Nat → Nat → List UInt8
  | 0, _ => []
  | k + 1, n => be k (n / 256) ++ [UInt8.ofNat (n % 256)]

/-- The number of bytes. -/
def un (l : List UInt8) : Nat := l.foldl (fun n c => n * 256 + c.toNat) 0

theorem be_length : ∀ k n, (be k n).length = k
  | 0, _ => rfl
  | k + 1, n => by simp [be, be_length k]

theorem un_snoc (l : List UInt8) (c : UInt8) : un (l ++ [c]) = un l * 256 + c.toNat := by simp [un]

theorem un_be : ∀ k n, un (be k n) = n % 256 ^ k
  | 0, n => by simp [be, un, Nat.mod_one]
  | k + 1, n => by
    rw [be, un_snoc, un_be k]
    have e : (UInt8.ofNat (n % 256)).toNat = n % 256 := by simp
    rw [e, Nat.pow_succ, Nat.mul_comm (256 ^ k) 256, Nat.mod_mul]
    omega

theorem un_lt : ∀ l : List UInt8, un l < 256 ^ l.length := by
  intro l
  have key : ∀ (l : List UInt8) (a : Nat), (l.foldl (fun n c => n * 256 + c.toNat) a) < (a + 1) * 256 ^ l.length := by
    intro l
    induction l with
    | nil => intro a; simp
    | cons c l ih =>
      intro a
      have h := ih (a * 256 + c.toNat)
      have hc := c.toNat_lt
      simp only [List.foldl_cons, List.length_cons]
      refine Nat.lt_of_lt_of_le h ?_
      rw [Nat.pow_succ, Nat.mul_comm (256 ^ l.length) 256, ← Nat.mul_assoc]
      exact Nat.mul_le_mul_right _ (by omega)
  have := key l 0
  simpa [un] using this

theorem be_un (l : List UInt8) : be l.length (un l) = l := by
  have key : ∀ (k : Nat) (l : List UInt8), l.length = k → be k (un l) = l := by
    intro k
    induction k with
    | zero => intro l h; rw [List.eq_nil_of_length_eq_zero h]; rfl
    | succ k ih =>
      intro l h
      have hne : l ≠ [] := by intro e; rw [e] at h; cases h
      have hl := List.dropLast_concat_getLast hne
      generalize l.getLast hne = c at hl
      have hd : l.dropLast.length = k := by simp [h]
      generalize l.dropLast = d at hl hd
      subst hl
      rw [be, un_snoc]
      have hc := c.toNat_lt
      have e1 : (un d * 256 + c.toNat) / 256 = un d := by omega
      have e2 : (un d * 256 + c.toNat) % 256 = c.toNat := by omega
      rw [e1, e2, ih d hd]
      simp
  exact key _ l rfl

theorem be_inj {k a b : Nat} (ha : a < 256 ^ k) (hb : b < 256 ^ k) (h : be k a = be k b) : a = b := by
  have := congrArg un h
  rwa [un_be, un_be, Nat.mod_eq_of_lt ha, Nat.mod_eq_of_lt hb] at this

/-! ### the check -/

/-- What half a byte's steps make. -/
def halves : List Nat := [0, 498536548, 997073096, 651767980, 1994146192, 1802195444, 1303535960, 1342533948, 3988292384, 4027552580, 3604390888, 3412177804, 2607071920, 2262029012, 2685067896, 3183342108]
/-- Half a byte's step. -/
def nib (n : Nat) : Nat := (n / 16) ^^^ (halves.getD (n % 16) 0)
/-- One bit's step. -/
def bit1 (n : Nat) : Nat := if n % 2 = 1 then (n / 2) ^^^ 3988292384 else n / 2
/-- One byte's step. -/
def crcStep (c : Nat) (b : UInt8) : Nat := nib (nib (c ^^^ b.toNat))
/-- The steps of bytes. -/
def crcFrom (c : Nat) (l : List UInt8) : Nat := l.foldl crcStep c
/-- The check of bytes. -/
def crcL (l : List UInt8) : Nat := crcFrom 4294967295 l ^^^ 4294967295

theorem half_lt : ∀ k : Nat, halves.getD k 0 < 2 ^ 32
  | 0 => by decide | 1 => by decide | 2 => by decide | 3 => by decide | 4 => by decide | 5 => by decide | 6 => by decide | 7 => by decide
  | 8 => by decide | 9 => by decide | 10 => by decide | 11 => by decide | 12 => by decide | 13 => by decide | 14 => by decide | 15 => by decide
  | n + 16 => by simp [halves]

theorem nib_lt {n : Nat} (h : n < 2 ^ 32) : nib n < 2 ^ 32 := Nat.xor_lt_two_pow (by omega) (half_lt _)
theorem bit1_lt {n : Nat} (h : n < 2 ^ 32) : bit1 n < 2 ^ 32 := by
  unfold bit1
  split
  · exact Nat.xor_lt_two_pow (by omega) (by decide)
  · omega
theorem crcStep_lt {c : Nat} (h : c < 2 ^ 32) (b : UInt8) : crcStep c b < 2 ^ 32 := nib_lt (nib_lt (Nat.xor_lt_two_pow h (by have := b.toNat_lt; omega)))
theorem crcFrom_lt : ∀ (l : List UInt8) {c : Nat}, c < 2 ^ 32 → crcFrom c l < 2 ^ 32
  | [], _, h => h
  | b :: l, _, h => crcFrom_lt l (crcStep_lt h b)
theorem crcL_lt (l : List UInt8) : crcL l < 2 ^ 32 := Nat.xor_lt_two_pow (crcFrom_lt l (by decide)) (by decide)
theorem crcFrom_snoc (c : Nat) (l : List UInt8) (b : UInt8) : crcFrom c (l ++ [b]) = crcStep (crcFrom c l) b := by simp [crcFrom]
theorem crcFrom_append (c : Nat) (l m : List UInt8) : crcFrom c (l ++ m) = crcFrom (crcFrom c l) m := by simp [crcFrom]

theorem xor_half (a b : Nat) : (a ^^^ b) / 2 = a / 2 ^^^ b / 2 := by
  have h : ∀ n : Nat, n / 2 = n >>> 1 := fun n => by rw [Nat.shiftRight_eq_div_pow]
  rw [h, h, h, Nat.shiftRight_xor_distrib]
theorem xor_par (a b : Nat) : (a ^^^ b) % 2 = (a % 2 + b % 2) % 2 := by
  have h := Nat.testBit_xor a b 0
  simp only [Nat.testBit_zero] at h
  have h1 : a % 2 = 0 ∨ a % 2 = 1 := by omega
  have h2 : b % 2 = 0 ∨ b % 2 = 1 := by omega
  have h3 : (a ^^^ b) % 2 = 0 ∨ (a ^^^ b) % 2 = 1 := by omega
  rcases h1 with h1 | h1 <;> rcases h2 with h2 | h2 <;> rcases h3 with h3 | h3 <;> simp_all
theorem bit1_xor (a b : Nat) : bit1 (a ^^^ b) = bit1 a ^^^ bit1 b := by
  unfold bit1
  rw [xor_half, xor_par]
  have h1 : a % 2 = 0 ∨ a % 2 = 1 := by omega
  have h2 : b % 2 = 0 ∨ b % 2 = 1 := by omega
  have hx : ∀ x y p : Nat, x ^^^ y = x ^^^ p ^^^ (y ^^^ p) := by
    intro x y p
    rw [Nat.xor_assoc, Nat.xor_comm p (y ^^^ p), Nat.xor_assoc, Nat.xor_self, Nat.xor_zero]
  rcases h1 with h1 | h1 <;> rcases h2 with h2 | h2 <;> simp only [h1, h2] <;> simp
  · rw [Nat.xor_assoc]
  · rw [Nat.xor_assoc, Nat.xor_assoc, Nat.xor_comm (b / 2)]
  · exact hx _ _ _
theorem bit1_even (m : Nat) : bit1 (2 * m) = m := by
  unfold bit1
  rw [if_neg (by omega)]
  omega
def bit4 (n : Nat) : Nat := bit1 (bit1 (bit1 (bit1 n)))
theorem bit4_xor (a b : Nat) : bit4 (a ^^^ b) = bit4 a ^^^ bit4 b := by simp only [bit4, bit1_xor]
theorem bit4_small : ∀ r, r < 16 → bit4 r = halves.getD r 0 := by decide
theorem bit4_high (q : Nat) : bit4 (16 * q) = q := by
  unfold bit4
  rw [show 16 * q = 2 * (2 * (2 * (2 * q))) from by omega, bit1_even, bit1_even, bit1_even, bit1_even]
theorem split16 (n : Nat) : n = 16 * (n / 16) ^^^ n % 16 := by
  have h : 16 * (n / 16) ^^^ n % 16 = 16 * (n / 16) + n % 16 := by
    apply Nat.eq_of_testBit_eq
    intro i
    rw [Nat.testBit_xor, show (16 : Nat) = 2 ^ 4 from rfl, Nat.testBit_two_pow_mul_add _ (Nat.mod_lt _ (by decide)), Nat.testBit_two_pow_mul, Nat.testBit_mod_two_pow]
    by_cases hi : i < 4
    · simp [hi, Nat.not_le.2 hi]
    · simp [hi, Nat.le_of_not_lt hi]
  rw [h]
  omega
theorem nib_bit4 (n : Nat) : nib n = bit4 n := by
  conv => rhs; rw [split16 n, bit4_xor, bit4_high, bit4_small _ (Nat.mod_lt _ (by decide))]
  rfl
theorem crcStep_bits (c : Nat) (b : UInt8) : crcStep c b = bit4 (bit4 (c ^^^ b.toNat)) := by unfold crcStep; rw [nib_bit4, nib_bit4]
end Go.Proofs.YthbbdicdcmjpiaaGreatDoor
