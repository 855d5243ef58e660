/-
  Roots and their bytes: what Decode and Pick do, by their walks. It proves no statement by itself.
-/
import Derived.Test.YtpccdadobnhpkaaDoorRtW
namespace Go.Proofs.YtpccdadobnhpkaaDoor
open Go.RowKit
set_option linter.unusedSimpArgs false
set_option linter.unusedVariables false

theorem bR_size (r : Rd) (n : Int) : (r.bR n).rest.size ≤ r.rest.size := by
  unfold Rd.bR
  split
  · simp only [ByteArray.size_extract]; omega
  · exact Nat.le_refl _

/-- The numbers as a reader reads them. -/
def rdSeq (s : ByteArray) : Rt :=
  let r0 : Rd := ⟨s, 0⟩
  let r1 := r0.bR ((4 : Nat) : Int)
  let r2 := r1.bR ((4 : Nat) : Int)
  let r3 := r2.bR ((4 : Nat) : Int)
  let r4 := r3.bR ((4 : Nat) : Int)
  ⟨(r0.num 4 : Nat), (r1.num 4 : Nat), (r2.num 4 : Nat), (r3.num 4 : Nat), (r4.num 4 : Nat)⟩

theorem bR_at (s : ByteArray) (a n : Nat) (h : a + n ≤ s.size) : (Rd.bR ⟨s.extract a s.size, 0⟩ n) = ⟨s.extract (a + n) s.size, 0⟩ ∧ (Rd.bS ⟨s.extract a s.size, 0⟩ n) = s.extract a (a + n) := by
  have hs : (s.extract a s.size).size = s.size - a := by rw [ByteArray.size_extract]; omega
  have tl : s.data.toList.take s.size = s.data.toList := List.take_of_length_le (Nat.le_refl _)
  have e : Rd.bE ⟨s.extract a s.size, 0⟩ n = 0 := by
    unfold Rd.bE
    have h1 : ¬ ((n : Int) < 0) := by omega
    have h2 : ¬ ((((s.extract a s.size).size : Nat) : Int) < n) := by rw [hs]; omega
    simp [h1, h2]
    omega
  constructor
  · unfold Rd.bR
    rw [if_pos e, Int.toNat_natCast]
    congr 1
    apply ByteArray.ext
    apply Array.ext'
    simp only [Rt.ext_list]
    rw [tl, List.take_of_length_le (by rw [List.length_drop, hs, size_list]; exact Nat.le_refl _), List.drop_drop]
  · unfold Rd.bS
    rw [if_pos e, Int.toNat_natCast]
    apply ByteArray.ext
    apply Array.ext'
    simp only [Rt.ext_list, List.drop_zero]
    rw [tl, List.drop_take]
    congr 1
    omega

theorem rdSeq_eq (s : ByteArray) (h : s.size = 256) : rdSeq s = Rt.rd s := by
  have e0 : (⟨s, 0⟩ : Rd) = ⟨s.extract 0 s.size, 0⟩ := by
    congr 1
    apply ByteArray.ext
    apply Array.ext'
    simp only [Rt.ext_list, List.drop_zero]
    exact (List.take_of_length_le (Nat.le_refl _)).symm
  have k0 := bR_at s 0 4 (by omega)
  have k1 := bR_at s 4 4 (by omega)
  have k2 := bR_at s 8 4 (by omega)
  have k3 := bR_at s 12 4 (by omega)
  have k4 := bR_at s 16 4 (by omega)
  simp only [Nat.zero_add, Nat.reduceAdd] at k0 k1 k2 k3 k4
  unfold rdSeq Rt.rd
  simp only [e0, Rd.num]
  rw [k0.1, k0.2, k1.1, k1.2, k2.1, k2.2, k3.1, k3.2, k4.2]

theorem dec_seq (s : ByteArray) : Rt.dec s = if (rdSeq s).good = true ∧ tx (rdSeq s).bytes = s then some (rdSeq s) else none := by
  unfold Rt.dec
  by_cases h : s.size = 256
  · rw [rdSeq_eq s h]
    simp [h]
  · rw [if_neg (fun x => h x.1), if_neg]
    rintro ⟨_, x⟩
    rw [← x, tx_size, Rt.bytes_length] at h
    exact h rfl

theorem str_ne {t s : ByteArray} (h : ¬ t = s) : (t.toList == s.toList) = false := by
  rw [ByteArray.toList_eq, ByteArray.toList_eq, beq_eq_false_iff_ne]
  intro e
  exact h (by rw [← tx_of t, ← tx_of s, e])
theorem str_eq (s : ByteArray) : (s.toList == s.toList) = true := by simp

/-- What Decode answers. -/
def decV (s : ByteArray) : Value := .tuple #[((Rt.dec s).getD Rt.zero).val, .bool (Rt.dec s).isSome]

theorem u64_le (s : Rd) (k : Nat) (hk : k ≤ 4) : s.num k < 4294967296 := by
  unfold Rd.num
  refine un_le _ k ?_ hk
  rw [bS_length s k (by omega)]
  split <;> simp

section
variable {F : Asn} {w : World} {R : Ending → World → Prop}