/-
  The statement DiskBreaks, walked: it answers true. It proves the walk alone; the row is closed elsewhere.
-/
import Derived.Test.YtpccdadobnhpkaaDoorTwice
namespace Go.Proofs.YtpccdadobnhpkaaDoor
open Go.RowKit
set_option linter.unusedSimpArgs false
set_option linter.unusedVariables false

/-- So many writes of page(2). -/
def bpend (k : Nat) : List (Int × ByteArray) := (List.range k).map fun i => (((i % 4 : Nat) : Int), pageS 2)
theorem bpend_length (k : Nat) : (bpend k).length = k := by simp [bpend]
theorem bpend_succ (k : Nat) : bpend (k + 1) = bpend k ++ [(((k % 4 : Nat) : Int), pageS 2)] := by simp [bpend, List.range_succ]

def b4 : List ByteArray := [rp 256 0, rp 256 0, rp 256 0, rp 256 0]
/-- The disk behind k rounds. -/
def bk (n k : Nat) : Dk := ⟨b4, bpend k, (n : Int) - k, false, 0, k⟩
/-- The disk whose power is gone. -/
def bd (n : Nat) : Dk := ⟨b4, bpend n ++ [(1, pageS 3)], -1, true, 0, n + 1⟩
/-- The disk behind the crash. -/
def bc (n : Nat) : Dk := ⟨[rp 256 0, pageS 3, rp 256 0, rp 256 0], [], -1, false, 0, n + 1⟩

theorem pg2 : pageS 2 = rp 256 2 := if_neg (by decide)
theorem pg3 : pageS 3 = rp 256 3 := if_neg (by decide)
theorem pg4 : pageS 4 = rp 256 4 := if_neg (by decide)

theorem b4_sect : ∀ i, i < b4.length → (b4.getD i ByteArray.empty).size = 256 := by
  intro i hi
  match i, hi with
  | 0, _ => exact rp_size _ _
  | 1, _ => exact rp_size _ _
  | 2, _ => exact rp_size _ _
  | 3, _ => exact rp_size _ _

theorem bk_ok (n k : Nat) (hn : n ≤ 60) (hk : k ≤ n) : (bk n k).Ok := by
  refine ⟨b4_sect, by simp [bk, b4], ?_, ?_, by simp [bk]; omega, by simp [bk], by simp [bk]⟩
  · intro p hp
    simp only [bk, bpend, List.mem_map] at hp
    obtain ⟨i, _, rfl⟩ := hp
    simp [bk, b4]
    omega
  · intro p hp
    simp only [bk, bpend, List.mem_map] at hp
    obtain ⟨i, _, rfl⟩ := hp
    simp [pg2, rp_size]

theorem bk_start (n : Nat) : (Dk.new 4).brk n = bk n 0 := by
  simp only [Dk.brk, Dk.new, bk, bpend, b4]
  congr 1
  simp
  omega

theorem bk_step (n k : Nat) (hk : k < n) : (bk n k).write ((k % 4 : Nat) : Int) (pageS 2) = bk n (k + 1) ∧ (bk n k).writeE ((k % 4 : Nat) : Int) (pageS 2) = 0 := by
  have e : (bk n k).atE ((k % 4 : Nat) : Int) = 0 := by simp [Dk.atE, bk, b4]; omega
  have hl : ¬ ((n : Int) - k = 0) := by omega
  have hp : 0 < (n : Int) - k := by omega
  constructor
  · simp only [Dk.write, e, pg2, rp_size]
    simp [bk, hl, hp, bpend_succ, pg2]
    omega
  · simp only [Dk.writeE, e, pg2, rp_size]
    simp [bk, hl]

theorem bk_nine (n k : Nat) (s : ByteArray) : (bk n k).write 9 s = bk n k := by simp [Dk.write, Dk.atE, bk, b4]
theorem bk_short (n k : Nat) (s : ByteArray) (hs : s.size ≠ 256) : (bk n k).write 0 s = bk n k := by simp [Dk.write, Dk.atE, bk, b4, hs]

theorem bk_last (n : Nat) : (bk n n).write 1 (pageS 3) = bd n ∧ (bk n n).writeE 1 (pageS 3) = 4 := by
  constructor
  · simp [Dk.write, Dk.atE, bk, b4, pg3, rp_size, bd]
  · simp [Dk.writeE, Dk.atE, bk, b4, pg3, rp_size]

theorem bd_still (n : Nat) (i : Int) (s : ByteArray) : (bd n).read i = bd n ∧ (bd n).atE i = 4 ∧ (bd n).readS i = ByteArray.empty ∧ (bd n).write i s = bd n ∧ (bd n).writeE i s = 4 ∧ (bd n).sync = bd n ∧ (bd n).syncE = 4 := by
  simp [Dk.read, Dk.atE, bd, Dk.readS, Dk.write, Dk.writeE, Dk.sync, Dk.syncE]

theorem bd_ok (n : Nat) (hn : n ≤ 60) : (bd n).Ok := by
  have := Dk.write_ok' (bk_ok n n hn (Nat.le_refl _)) 1 (pageS 3)
  rwa [(bk_last n).1] at this

theorem crashes_none (keep : List Int) (t c : Int) : ∀ (l : List (Int × ByteArray)) (k : Nat) (sure : List ByteArray), (∀ j, j < l.length → keep.contains ((k + j : Nat) : Int) = false) → Dk.crashes keep t c k l sure = sure
  | [], k, sure, _ => rfl
  | p :: l, k, sure, h => by
    have h0 := h 0 (by simp)
    rw [Nat.add_zero] at h0
    unfold Dk.crashes
    rw [h0]
    exact crashes_none keep t c l (k + 1) sure fun j hj => by rw [show k + 1 + j = k + (j + 1) from by omega]; exact h (j + 1) (by simp; omega)

theorem bd_crash (n : Nat) : (bd n).crash [(n : Int)] (-1) 0 = bc n := by
  have e : Dk.crashes [(n : Int)] (-1) 0 0 (bpend n ++ [(1, pageS 3)]) b4 = [rp 256 0, pageS 3, rp 256 0, rp 256 0] := by
    rw [crashes_snoc, crashes_none]
    · have hc : Dk.comes (-1) 0 (0 + (bpend n).length) = 256 := by unfold Dk.comes; rw [if_neg (by omega)]
      rw [hc, bpend_length, Nat.zero_add]
      simp [Dk.done, b4, pg3, rp_all, rp_none, append_none]
    · intro j hj
      rw [bpend_length] at hj
      simp
      omega
  simp [Dk.crash, bd, e, bc]

theorem bc_ok (n : Nat) (hn : n ≤ 60) : (bc n).Ok := by
  rw [← bd_crash]
  exact Dk.crash_ok' (bd_ok n hn) _ _ _
theorem bc_read (n : Nat) : (bc n).atE 1 = 0 ∧ (bc n).readS 1 = pageS 3 ∧ (bc n).read 1 = { bc n with reads := 1 } := by
  simp [Dk.atE, bc, Dk.readS, Dk.now, Dk.last, Dk.read]

section
variable {w : World} {R : Ending → World → Prop}