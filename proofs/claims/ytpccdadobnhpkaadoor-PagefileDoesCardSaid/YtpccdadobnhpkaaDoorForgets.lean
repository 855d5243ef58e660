/-
  The statement DiskForgets, walked: it answers true. It proves the walk alone; the row is closed elsewhere.
-/
import Derived.Test.YtpccdadobnhpkaaDoorApart
namespace Go.Proofs.YtpccdadobnhpkaaDoor
open Go.RowKit
set_option linter.unusedSimpArgs false
set_option linter.unusedVariables false

theorem Tryd.info3 : (Tryd.prog.info? 3).map (fun i => (i.zero, i.size, i.bytes)) = some (some (.int .i64 0), 1, 8) := by kernel_rfl

/-- 0, 1 .. -/
def upto (k : Nat) : List Int := (List.range k).map fun (i : Nat) => (i : Int)
theorem upto_length (k : Nat) : (upto k).length = k := by simp [upto]
theorem upto_succ (k : Nat) : (upto (k + 1)).map (Value.int .i64) = (upto k).map (Value.int .i64) ++ [.int .i64 (k : Int)] := by simp [upto, List.range_succ]
theorem upto_has (k j : Nat) (h : j < k) : (upto k).contains (j : Int) = true := by
  simp only [upto, List.contains_iff_mem, List.mem_map, List.mem_range]
  exact ⟨j, h, rfl⟩

theorem reads_row {F : Asn} {w : World} {e : TypeId} {v : Value} {n : Nat} {zs : List Int} (H : Sat (Row e 1 v n (zs.map (Value.int .i64)) * F) w) (hn : n ≤ 9223372036854775807) : ReadsInts (Row e 1 v n (zs.map (Value.int .i64)) * F) v zs := by
  obtain ⟨hl, hc⟩ := sat_row.1 H
  have hz : n = zs.length := by rw [List.length_map] at hl; omega
  rcases hc with ⟨rfl, h0, _⟩ | ⟨g, cap, cur, rfl, _, _, _, _, _⟩
  · exact ⟨none, 0, 0, rfl, by omega, by omega, .inl rfl⟩
  · refine ⟨_, n, cap, rfl, hz, hn, ?_⟩
    rcases Nat.eq_zero_or_pos n with h0 | h0
    · exact .inl h0
    · refine .inr ⟨g, 0, rfl, fun w' hw j hj => ?_⟩
      rw [Nat.zero_add]
      refine row_cell hw j _ ?_
      have hj' : j < zs.length := by omega
      simp [List.getD, hj']

/-- Nothing is kept: what is sure stays. -/
theorem crash_forgets (d : Dk) : (d.crash [] 0 0).sure = d.sure := crashes_none [] 0 0 d.pend 0 d.sure (fun _ _ => rfl)

/-- All is kept: what is sure is what it read as. -/
theorem crash_keeps {d : Dk} (ok : d.Ok) (n : Nat) (hn : d.pend.length ≤ n) (j : Nat) (hj : j < d.sure.length) : (d.crash (upto n) (-1) 0).sureS (j : Int) = d.now j := by
  have e : (d.crash (upto n) (-1) 0).sure = Dk.syncs d.sure d.pend := Dk.crashes_all (upto n) 0 d.pend 0 d.sure (fun i hi => by rw [Nat.zero_add]; exact upto_has n i (by omega))
  unfold Dk.sureS
  rw [e, Dk.syncs_length, if_pos ⟨by omega, by omega⟩, Int.toNat_natCast]
  exact Dk.syncs_get d.pend d.sure ok.sect ok.rng ok.txt j hj

theorem sures_of (d d' : Dk) (h : d'.sure = d.sure) (i : Int) : d'.sureS i = d.sureS i := by unfold Dk.sureS; rw [h]

theorem Live.pend_write {d : Dk} {n m : Nat} (h : d.pend.length ≤ m) (i : Int) (s : ByteArray) : (d.write i s).pend.length ≤ m + 1 ∧ (d.write i s).sure = d.sure := by
  refine ⟨by have := Dk.write_pend d i s; omega, ?_⟩
  unfold Dk.write
  split <;> (try split) <;> rfl

section
variable {w : World} {R : Ending → World → Prop}