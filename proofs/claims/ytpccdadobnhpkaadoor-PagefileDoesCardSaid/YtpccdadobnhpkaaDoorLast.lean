/-
  The statement DiskLast, walked: it answers true. It proves the walk alone; the row is closed elsewhere.
-/
import Derived.Test.YtpccdadobnhpkaaDoorDLaws
namespace Go.Proofs.YtpccdadobnhpkaaDoor
open Go.RowKit
set_option linter.unusedSimpArgs false
set_option linter.unusedVariables false

/-- One act done. -/
def lstep (d : Dk) (x : Act4) : Dk := if x.K.tmod 4 = 0 then (d.write x.I (pageS x.B)).sync else d.write x.I (pageS x.B)
def lrun (l : List Act4) : Dk := l.foldl lstep ((Dk.new 8).seen 8)
theorem lrun_snoc (l : List Act4) (x : Act4) : lrun (l ++ [x]) = lstep (lrun l) x := by simp [lrun]

/-- A disk of eight sectors whose power does not go. -/
structure Live (d : Dk) (n : Nat) : Prop where
  fit : d.Fit 8 n
  down : d.down = false
  left : d.left = -1

theorem Live.write {d : Dk} {n : Nat} (h : Live d n) (i : Int) (s : ByteArray) : Live (d.write i s) (n + 1) :=
  ⟨h.fit.write i s, (Dk.write_live d i s ⟨h.down, h.left⟩).1, (Dk.write_live d i s ⟨h.down, h.left⟩).2⟩
theorem Live.sync {d : Dk} {n : Nat} (h : Live d n) : Live d.sync n := by
  refine ⟨h.fit.sync, ?_, ?_⟩ <;> simp [Dk.sync, Dk.settle, h.down, h.left]
theorem Live.new : Live (Dk.new 8) 0 := ⟨Dk.Fit.new 8 (by omega), rfl, rfl⟩
theorem Live.seen {d : Dk} {n : Nat} (h : Live d n) (k : Nat) : Live (d.seen k) (n + k) := ⟨h.fit.seen k, h.down, h.left⟩
theorem Live.mono {d : Dk} {n m : Nat} (h : Live d n) (hm : n ≤ m) : Live d m := ⟨h.fit.mono hm, h.down, h.left⟩
theorem Live.step {d : Dk} {n : Nat} (h : Live d n) (x : Act4) : Live (lstep d x) (n + 1) := by
  unfold lstep
  split
  · exact (h.write x.I (pageS x.B)).sync
  · exact h.write x.I (pageS x.B)
theorem Live.run (l : List Act4) : Live (lrun l) (8 + l.length) := by
  have gen : ∀ (l : List Act4) (d : Dk) (n : Nat), Live d n → Live (l.foldl lstep d) (n + l.length) := by
    intro l
    induction l with
    | nil => intro d n h; exact h
    | cons x l ih =>
      intro d n h
      have := ih _ _ (h.step x)
      rw [List.length_cons, show n + (l.length + 1) = n + 1 + l.length from by omega]
      exact this
  have := gen l _ _ (Live.new.seen 8)
  rw [Nat.zero_add] at this
  exact this

theorem Live.writeE {d : Dk} {n : Nat} (h : Live d n) (i : Int) (s : ByteArray) (he : d.writeE i s = 0) : 0 ≤ i ∧ i < 8 := by
  have h1 : d.atE i = 0 := by
    unfold Dk.writeE at he
    split at he
    · rename_i h; exact absurd he h
    · rename_i h; exact Decidable.not_not.1 h
  have := Dk.at_range h1
  rw [h.fit.len] at this
  exact this

theorem Live.at {d : Dk} {n : Nat} (h : Live d n) (k : Nat) (hk : k < 8) : d.atE (k : Int) = 0 ∧ d.readS (k : Int) = d.now k ∧ d.read (k : Int) = d.seen 1 := by
  have e : d.atE (k : Int) = 0 := by
    have := h.fit.len
    simp [Dk.atE, h.down]
    omega
  refine ⟨e, ?_, ?_⟩
  · simp [Dk.readS, e]
  · simp [Dk.read, e, Dk.seen]

/-- What is written is what is read. -/
theorem Live.nows_step {d : Dk} {n : Nat} (h : Live d n) (x : Act4) :
    nows (lstep d x) 8 = if d.writeE x.I (pageS x.B) = 0 then (nows d 8).set x.I.toNat (.string (pageS x.B)) else nows d 8 := by
  have hs : nows (lstep d x) 8 = nows (d.write x.I (pageS x.B)) 8 := by
    unfold lstep
    split
    · refine nows_congr _ _ _ fun j hj => ?_
      have hw := h.write x.I (pageS x.B)
      exact (Dk.now_sync hw.fit.ok hw.down j (by rw [hw.fit.len]; exact hj)).1
    · rfl
  rw [hs]
  split
  · rename_i he
    obtain ⟨i0, i8⟩ := h.writeE _ _ he
    apply List.ext_getElem?
    intro j
    by_cases hj : j < 8
    · rw [nows_get _ _ _ hj, Dk.now_write _ _ he]
      by_cases e : x.I = (j : Int)
      · have : x.I.toNat = j := by omega
        rw [if_pos e, this, List.getElem?_set_self (by rw [nows_length]; exact hj)]
      · have : ¬ x.I.toNat = j := by omega
        rw [if_neg e, List.getElem?_set_ne this, nows_get _ _ _ hj]
    · rw [List.getElem?_eq_none (by rw [nows_length]; omega), List.getElem?_eq_none (by rw [List.length_set, nows_length]; omega)]
  · rename_i he
    rw [Dk.write_same _ _ h.left he]

section
variable {w : World} {R : Ending → World → Prop}