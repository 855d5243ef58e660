/-
  Roots and their bytes, in plain words. It proves no statement by itself.
-/
import Derived.Test.YtpccdadobnhpkaaDoorCodJ
namespace Go.Proofs.YtpccdadobnhpkaaDoor
open Go.RowKit
set_option linter.unusedSimpArgs false
set_option linter.unusedVariables false

/-- Some noughts. -/
def noughts (n : Nat) : List UInt8 := List.replicate n 0
theorem noughts_length (n : Nat) : (noughts n).length = n := by simp [noughts]
theorem noughts_snoc (n : Nat) : noughts n ++ [0] = noughts (n + 1) := by simp [noughts, List.replicate_succ']

/-- A root. -/
structure Rt where
  e : Int
  p : Int
  c : Int
  f : Int
  n : Int

namespace Rt
/-- No root. -/
def zero : Rt := ⟨0, 0, 0, 0, 0⟩
/-- As a struct. -/
def val (r : Rt) : Value := .agg #[.int .i64 r.e, .int .i64 r.p, .int .i64 r.c, .int .i64 r.f, .int .i64 r.n]
/-- May it be written? -/
def good (r : Rt) : Bool := !(decide (r.e = 0)) && (fits 4 r.e && (fits 4 r.p && (fits 4 r.c && (fits 4 r.f && fits 4 r.n))))
/-- Its numbers' bytes. -/
def head (r : Rt) : List UInt8 := be 4 r.e.toNat ++ be 4 r.p.toNat ++ be 4 r.c.toNat ++ be 4 r.f.toNat ++ be 4 r.n.toNat
/-- All that is checked. -/
def body (r : Rt) : List UInt8 := r.head ++ noughts 228
/-- Its bytes. -/
def bytes (r : Rt) : List UInt8 := r.body ++ be 4 (crcL r.body) ++ be 4 r.e.toNat
/-- What Encode makes, and what it errs with. -/
def encS (r : Rt) : ByteArray := if r.good then tx r.bytes else ByteArray.empty
def encE (r : Rt) : Int := if r.good then 0 else 1

theorem head_length (r : Rt) : r.head.length = 20 := by simp [head, be_length]
theorem body_length (r : Rt) : r.body.length = 248 := by simp [body, head_length, noughts_length]
theorem bytes_length (r : Rt) : r.bytes.length = 256 := by simp [bytes, body_length, be_length]

theorem of_fits {k : Nat} {n : Int} (h : fits k n = true) : 0 ≤ n ∧ n.toNat < 256 ^ k ∧ (n.toNat : Int) = n := by
  simp only [fits, Bool.and_eq_true, decide_eq_true_eq] at h
  have e : ((256 : Int) ^ k) = ((256 ^ k : Nat) : Int) := by simp
  rw [e] at h
  refine ⟨h.1, by omega, by omega⟩

/-- The numbers that 256 bytes bear. -/
def rd (s : ByteArray) : Rt := ⟨un (s.extract 0 4).data.toList, un (s.extract 4 8).data.toList, un (s.extract 8 12).data.toList, un (s.extract 12 16).data.toList, un (s.extract 16 20).data.toList⟩
/-- The root of bytes, if any. -/
def dec (s : ByteArray) : Option Rt := if s.size = 256 ∧ (rd s).good = true ∧ tx (rd s).bytes = s then some (rd s) else none

theorem good_parts {r : Rt} (h : r.good = true) : r.e ≠ 0 ∧ fits 4 r.e = true ∧ fits 4 r.p = true ∧ fits 4 r.c = true ∧ fits 4 r.f = true ∧ fits 4 r.n = true := by
  simpa [good] using h

theorem ext_list (s : ByteArray) (a b : Nat) : (s.extract a b).data.toList = (s.data.toList.take b).drop a := by
  have := tx_extract s.data.toList a b
  rw [tx_of] at this
  rw [this, tx_list]

theorem rd_bytes {r : Rt} (h : r.good = true) : rd (tx r.bytes) = r := by
  obtain ⟨_, h1, h2, h3, h4, h5⟩ := good_parts h
  have f1 := of_fits h1
  have f2 := of_fits h2
  have f3 := of_fits h3
  have f4 := of_fits h4
  have f5 := of_fits h5
  have l1 := be_length 4 r.e.toNat
  have l2 := be_length 4 r.p.toNat
  have l3 := be_length 4 r.c.toNat
  have l4 := be_length 4 r.f.toNat
  have l5 := be_length 4 r.n.toNat
  have key : ∀ (a b c d e t : List UInt8), a.length = 4 → b.length = 4 → c.length = 4 → d.length = 4 → e.length = 4 →
      ((a ++ b ++ c ++ d ++ e ++ t).take 4).drop 0 = a ∧ ((a ++ b ++ c ++ d ++ e ++ t).take 8).drop 4 = b ∧ ((a ++ b ++ c ++ d ++ e ++ t).take 12).drop 8 = c ∧
      ((a ++ b ++ c ++ d ++ e ++ t).take 16).drop 12 = d ∧ ((a ++ b ++ c ++ d ++ e ++ t).take 20).drop 16 = e := by
    intro a b c d e t ha hb hc hd he
    simp [List.take_append, List.drop_append, List.take_of_length_le, List.drop_of_length_le, ha, hb, hc, hd, he]
  have e : r.bytes = be 4 r.e.toNat ++ be 4 r.p.toNat ++ be 4 r.c.toNat ++ be 4 r.f.toNat ++ be 4 r.n.toNat ++ (noughts 228 ++ (be 4 (crcL r.body) ++ be 4 r.e.toNat)) := by
    simp [bytes, body, head]
  obtain ⟨k1, k2, k3, k4, k5⟩ := key _ _ _ _ _ (noughts 228 ++ (be 4 (crcL r.body) ++ be 4 r.e.toNat)) l1 l2 l3 l4 l5
  rw [← e] at k1 k2 k3 k4 k5
  have u : ∀ n : Int, fits 4 n = true → ((un (be 4 n.toNat) : Nat) : Int) = n := by
    intro n hn
    obtain ⟨_, a, b⟩ := of_fits hn
    rw [un_be, Nat.mod_eq_of_lt a, b]
  unfold rd
  simp only [ext_list, tx_list]
  rw [k1, k2, k3, k4, k5, u _ h1, u _ h2, u _ h3, u _ h4, u _ h5]

theorem dec_iff {s : ByteArray} {r : Rt} : dec s = some r ↔ r.good = true ∧ s = tx r.bytes := by
  unfold dec
  constructor
  · intro h
    split at h
    · rename_i hc
      cases h
      exact ⟨hc.2.1, hc.2.2.symm⟩
    · cases h
  · rintro ⟨h1, rfl⟩
    rw [if_pos ⟨by rw [tx_size, bytes_length], by rw [rd_bytes h1]; exact h1, by rw [rd_bytes h1]⟩, rd_bytes h1]

theorem dec_bytes {r : Rt} (h : r.good = true) : dec (tx r.bytes) = some r := dec_iff.2 ⟨h, rfl⟩
theorem bytes_inj {r t : Rt} (h : r.good = true) (k : t.good = true) (e : tx r.bytes = tx t.bytes) : r = t := by
  have := dec_bytes h
  rw [e, dec_bytes k] at this
  exact (Option.some.inj this).symm

/-- Which root of two slots' bytes. -/
def pick (a b : ByteArray) : Option Rt :=
  match dec a, dec b with
  | some x, some y => if y.e ≤ x.e then some x else some y
  | some x, none => some x
  | none, some y => some y
  | none, none => none
end Rt
end Go.Proofs.YtpccdadobnhpkaaDoor
