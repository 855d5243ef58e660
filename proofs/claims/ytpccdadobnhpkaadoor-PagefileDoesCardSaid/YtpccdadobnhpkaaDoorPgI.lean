/-
  What Open does, in plain words: it is what bytes are. It proves no statement by itself.
-/
import Derived.Test.YtpccdadobnhpkaaDoorPgOw
namespace Go.Proofs.YtpccdadobnhpkaaDoor
open Go.RowKit
set_option linter.unusedSimpArgs false
set_option linter.unusedVariables false

namespace Op
variable {s : ByteArray}
theorem r1_eq (h : s.size = 256) : r1 s = ⟨s.extract 4 s.size, 0⟩ := by
  have := (bR_at s 0 4 (by omega)).1
  rw [ext_all] at this
  exact this
theorem r2_eq (h : s.size = 256) : r2 s = ⟨s.extract 8 s.size, 0⟩ := by unfold r2; rw [r1_eq h]; exact (bR_at s 4 4 (by omega)).1
theorem r3_eq (h : s.size = 256) : r3 s = ⟨s.extract 9 s.size, 0⟩ := by unfold r3; rw [r2_eq h]; exact (bR_at s 8 1 (by omega)).1
theorem r4_eq (h : s.size = 256) : r4 s = ⟨s.extract 10 s.size, 0⟩ := by unfold r4; rw [r3_eq h]; exact (bR_at s 9 1 (by omega)).1
theorem r5_eq (h : s.size = 256) : r5 s = ⟨s.extract 12 s.size, 0⟩ := by unfold r5; rw [r4_eq h]; exact (bR_at s 10 2 (by omega)).1
theorem r6_eq (h : s.size = 256) : r6 s = ⟨s.extract 16 s.size, 0⟩ := by unfold r6; rw [r5_eq h]; exact (bR_at s 12 4 (by omega)).1
theorem nid_eq (h : s.size = 256) : nid s = un (s.extract 4 8).data.toList := by unfold nid Rd.num; rw [r1_eq h, (bR_at s 4 4 (by omega)).2]
theorem nkind_eq (h : s.size = 256) : nkind s = un (s.extract 8 9).data.toList := by unfold nkind Rd.num; rw [r2_eq h, (bR_at s 8 1 (by omega)).2]
theorem nzero_eq (h : s.size = 256) : nzero s = un (s.extract 9 10).data.toList := by unfold nzero Rd.num; rw [r3_eq h, (bR_at s 9 1 (by omega)).2]
theorem nsize_eq (h : s.size = 256) : nsize s = pgN s := by unfold nsize pgN Rd.num; rw [r4_eq h, (bR_at s 10 2 (by omega)).2]
theorem gap_eq (h : s.size = 256) : gap s = s.extract 12 16 := by
  unfold gap
  rw [r5_eq h]
  exact (bR_at s 12 4 (by omega)).2
theorem body_eq (h : s.size = 256) (hn : pgN s ≤ 240) : body s = pgB s := by
  unfold body
  rw [r6_eq h, nsize_eq h]
  exact (bR_at s 16 (pgN s) (by omega)).2
theorem r7_eq (h : s.size = 256) (hn : pgN s ≤ 240) : r7 s = ⟨s.extract (16 + pgN s) s.size, 0⟩ := by
  unfold r7
  rw [r6_eq h, nsize_eq h]
  exact (bR_at s 16 (pgN s) (by omega)).1
theorem nleft_eq (h : s.size = 256) (hn : pgN s ≤ 240) : nleft s = 240 - pgN s := by
  unfold nleft
  rw [r7_eq h hn]
  show (s.extract (16 + pgN s) s.size).size = _
  rw [ByteArray.size_extract]
  omega
theorem rest_eq (h : s.size = 256) (hn : pgN s ≤ 240) : rest s = s.extract (16 + pgN s) 256 := by
  unfold rest
  rw [r7_eq h hn, nleft_eq h hn, (bR_at s (16 + pgN s) (240 - pgN s) (by omega)).2]
  congr 1
  omega
theorem fin_eq (h : s.size = 256) (hn : pgN s ≤ 240) : (r8 s).fin = 0 := by
  unfold r8
  rw [r7_eq h hn, nleft_eq h hn, (bR_at s (16 + pgN s) (240 - pgN s) (by omega)).1]
  unfold Rd.fin
  rw [if_pos]
  apply ByteArray.ext
  apply Array.ext'
  rw [sl_ext]
  apply List.eq_nil_of_length_eq_zero
  rw [sl_length _ _ _ (by rw [size_list]; exact Nat.le_refl _)]
  omega
end Op

theorem un_one (b : UInt8) : un [b] = b.toNat := by simp [un]
theorem chk_size {s : ByteArray} (h : chkB s = true) : s.size = 256 := by
  unfold chkB at h
  rw [Bool.and_eq_true, decide_eq_true_eq] at h
  exact h.1
theorem nkind_K {s : ByteArray} (h : s.size = 256) : Op.nkind s = (pgK s).toNat := by
  rw [Op.nkind_eq h, sl_ext, sl_one _ 8 (by rw [size_list]; omega), un_one, pgK]
theorem nzero_K {s : ByteArray} (h : s.size = 256) : Op.nzero s = (s.data.toList.getD 9 0).toNat := by
  rw [Op.nzero_eq h, sl_ext, sl_one _ 9 (by rw [size_list]; omega), un_one]

theorem is_some {id : Int} {s : ByteArray} (h : Op.is id s) : pgOpen id s = some (UInt8.ofNat (Op.nkind s), Op.body s) := by
  obtain ⟨c1, c2, c3, c4, c5, c6, c7⟩ := h
  have z := chk_size c1
  rw [Op.nsize_eq z] at c6
  rw [Op.rest_eq z c6] at c7
  rw [Op.gap_eq z] at c5
  rw [Op.nid_eq z] at c3
  rw [nzero_K z] at c4
  have c4' : s.data.toList.getD 9 0 = 0 := UInt8.toNat_inj.1 c4
  rw [pgOpen_parts c1 c6 c3 c4' c5 c7, nkind_K z, Op.body_eq z c6, UInt8.ofNat_toNat]

theorem some_is {id : Int} {s : ByteArray} {k : UInt8} {b : ByteArray} (h : pgOpen id s = some (k, b)) : Op.is id s := by
  obtain ⟨hb, hi, rfl⟩ := pgOpen_iff.1 h
  have z : (tx (pgBytes id k b)).size = 256 := by rw [tx_size, pgBytes_length hb]
  have n : pgN (tx (pgBytes id k b)) = b.size := by
    unfold pgN
    rw [sl_ext, tx_list, pg_10 hb, un_be, Nat.mod_eq_of_lt (by omega)]
  have n' : pgN (tx (pgBytes id k b)) ≤ 240 := by omega
  refine ⟨chk_bytes hb, Op.fin_eq z n', ?_, ?_, ?_, ?_, ?_⟩
  · rw [Op.nid_eq z, sl_ext, tx_list, pg_4 hb, un_be]
    simp [fits] at hi
    have e : (256 : Nat) ^ 4 = 4294967296 := rfl
    rw [e]
    omega
  · rw [Op.nzero_eq z, sl_ext, tx_list, pg_9 hb, be1_0]
    rfl
  · rw [Op.gap_eq z]
    apply ByteArray.ext
    apply Array.ext'
    rw [sl_ext, tx_list, pg_12 hb]
  · rw [Op.nsize_eq z]; exact n'
  · rw [Op.rest_eq z n', sl_ext, tx_list, n, pg_z hb]
    intro x hx
    exact List.eq_of_mem_replicate hx

/-- What Open answers. -/
def openV (id : Int) (s : ByteArray) : Value := match pgOpen id s with
  | some (k, b) => .tuple #[.int .u8 (k.toNat : Nat), .string b, .int .i64 0]
  | none => .tuple #[.int .u8 0, .string ByteArray.empty, .int .i64 3]

section
variable {F : Asn} {w : World} {R : Ending → World → Prop}
theorem open_any (hv : Hv F) (H : Sat F w) (id : Int) (s : ByteArray) (hs : s.size ≤ 1000000)
    (h : ∀ w', Sat F w' → Io w w' → R (.returned (openV id s)) w') :
    Calls Tryd.prog 38 #[.int .i64 id, .string s] w R := by
  refine open_walk hv H id s hs ?_ ?_
  · intro hi
    have e : openV id s = .tuple #[.int .u8 (Op.nkind s : Nat), .string (Op.body s), .int .i64 0] := by
      unfold openV
      rw [is_some hi]
      have := kind_lt s
      simp only [UInt8.toNat_ofNat']
      rw [Nat.mod_eq_of_lt (by omega)]
    rw [← e]
    exact h
  · intro hi
    have e : openV id s = .tuple #[.int .u8 0, .string ByteArray.empty, .int .i64 3] := by
      unfold openV
      cases ho : pgOpen id s with
      | none => rfl
      | some x => exact absurd (some_is ho) hi
    rw [← e]
    exact h
end
end Go.Proofs.YtpccdadobnhpkaaDoor
