/-
  Torn slots, in plain words. It proves no statement by itself.
-/
import Derived.Test.YtghpfepmkngfdaaDoorRtL
namespace Go.Proofs.YtghpfepmkngfdaaDoor
set_option linter.unusedSimpArgs false
set_option linter.unusedVariables false

/-- A slot that is written over up to byte n. -/
def tornL (a b : List UInt8) (n : Nat) : List UInt8 := b.take n ++ a.drop n

theorem torn_all {a b : List UInt8} (hb : b.length = 256) (ha : a.length = 256) : tornL a b 256 = b := by
  unfold tornL
  rw [List.take_of_length_le (by omega), List.drop_of_length_le (by omega), List.append_nil]
theorem torn_none (a b : List UInt8) : tornL a b 0 = a := by simp [tornL]

theorem bytes_first (r : Rt) : r.bytes.take 4 = be 4 r.e.toNat := by
  have e : r.bytes = be 4 r.e.toNat ++ (be 4 r.p.toNat ++ be 4 r.c.toNat ++ be 4 r.f.toNat ++ be 4 r.n.toNat ++ noughts 228 ++ (be 4 (crcL r.body) ++ be 4 r.e.toNat)) := by
    simp [Rt.bytes, Rt.body, Rt.head]
  rw [e, List.take_left' (be_length 4 _)]
theorem bytes_last (r : Rt) : r.bytes.drop 252 = be 4 r.e.toNat := by
  have e : r.bytes = (r.body ++ be 4 (crcL r.body)) ++ be 4 r.e.toNat := rfl
  rw [e, List.drop_left' (by rw [List.length_append, Rt.body_length, be_length])]

theorem good_e {r : Rt} (h : r.good = true) : (r.e.toNat : Int) = r.e ∧ r.e.toNat < 256 ^ 4 :=
  ⟨(Rt.of_fits (Rt.good_parts h).2.1).2.2, (Rt.of_fits (Rt.good_parts h).2.1).2.1⟩

/-- With the same bytes, but for the first ones or the last ones, the roots are the same if the epochs are. -/
theorem torn_root {old now r : Rt} (ho : old.good = true) (hn : now.good = true) (hr : r.good = true) (hne : old.e ≠ now.e) (n : Nat) (h : r.bytes = tornL old.bytes now.bytes n) (hle : n ≤ 256) : r = old ∨ r = now := by
  have lo := old.bytes_length
  have ln := now.bytes_length
  have lr := r.bytes_length
  rcases Nat.lt_or_ge n 4 with h4 | h4
  · -- the end is the old one's: so the epoch is the old one's, and so is the beginning
    left
    have e1 : r.bytes.drop 252 = old.bytes.drop 252 := by
      rw [h, tornL, List.drop_append, List.drop_of_length_le (by rw [List.length_take]; omega), List.nil_append, List.drop_drop]
      congr 1
      rw [List.length_take]
      omega
    rw [bytes_last, bytes_last] at e1
    have ee : r.bytes.take 4 = old.bytes.take 4 := by rw [bytes_first, bytes_first, e1]
    have ed : r.bytes.drop 4 = old.bytes.drop 4 := by
      rw [h, tornL, List.drop_append, List.drop_of_length_le (by rw [List.length_take]; omega), List.nil_append, List.drop_drop]
      congr 1
      rw [List.length_take]
      omega
    have : r.bytes = old.bytes := by rw [← List.take_append_drop 4 r.bytes, ee, ed, List.take_append_drop]
    exact Rt.bytes_inj hr ho (by rw [this])
  · rcases Nat.lt_or_ge 252 n with h5 | h5
    · right
      have e1 : r.bytes.take 4 = now.bytes.take 4 := by
        rw [h, tornL, List.take_append_of_le_length (by rw [List.length_take]; omega), List.take_take, Nat.min_eq_left (by omega)]
      rw [bytes_first, bytes_first] at e1
      have ee : r.bytes.drop 252 = now.bytes.drop 252 := by rw [bytes_last, bytes_last, e1]
      have ed : r.bytes.take 252 = now.bytes.take 252 := by
        rw [h, tornL, List.take_append_of_le_length (by rw [List.length_take]; omega), List.take_take, Nat.min_eq_left (by omega)]
      have : r.bytes = now.bytes := by rw [← List.take_append_drop 252 r.bytes, ee, ed, List.take_append_drop]
      exact Rt.bytes_inj hr hn (by rw [this])
    · -- the beginning is the new one's, the end the old one's: the epochs are the same
      have e1 : r.bytes.take 4 = now.bytes.take 4 := by
        rw [h, tornL, List.take_append_of_le_length (by rw [List.length_take]; omega), List.take_take, Nat.min_eq_left (by omega)]
      have e2 : r.bytes.drop 252 = old.bytes.drop 252 := by
        rw [h, tornL, List.drop_append, List.drop_of_length_le (by rw [List.length_take]; omega), List.nil_append, List.drop_drop]
        congr 1
        rw [List.length_take]
        omega
      rw [bytes_first, bytes_first] at e1
      rw [bytes_last, bytes_last] at e2
      have e3 := be_inj (good_e hn).2 (good_e ho).2 (e1.symm.trans e2)
      have e4 := (good_e hn).1
      have e5 := (good_e ho).1
      exact absurd (by omega) hne
end Go.Proofs.YtghpfepmkngfdaaDoor
