/-
  The statement DiskTwice, walked: it answers true. It proves the walk alone; the row is closed elsewhere.
-/
import Derived.Test.YtpccdadobnhpkaaDoorLight
namespace Go.Proofs.YtpccdadobnhpkaaDoor
open Go.RowKit
set_option linter.unusedSimpArgs false
set_option linter.unusedVariables false

/-- All acts written. -/
def Dk.puts (d : Dk) (l : List Act4) : Dk := l.foldl (fun d x => d.write x.I (pageS x.B)) d
theorem Dk.puts_snoc (d : Dk) (l : List Act4) (x : Act4) : d.puts (l ++ [x]) = (d.puts l).write x.I (pageS x.B) := by simp [Dk.puts]
theorem Dk.write_length (d : Dk) (i : Int) (s : ByteArray) : (d.write i s).sure.length = d.sure.length := by unfold Dk.write; split <;> (try split) <;> simp
theorem Dk.write_pend (d : Dk) (i : Int) (s : ByteArray) : (d.write i s).pend.length ≤ d.pend.length + 1 := by unfold Dk.write; split <;> (try split) <;> simp
theorem Dk.write_writes (d : Dk) (i : Int) (s : ByteArray) : (d.write i s).writes ≤ d.writes + 1 := by unfold Dk.write; split <;> (try split) <;> (try simp only) <;> omega
theorem Dk.write_reads (d : Dk) (i : Int) (s : ByteArray) : (d.write i s).reads = d.reads := by unfold Dk.write; split <;> (try split) <;> simp
theorem Dk.write_live (d : Dk) (i : Int) (s : ByteArray) (h : d.down = false ∧ d.left = -1) : (d.write i s).down = false ∧ (d.write i s).left = -1 := by
  obtain ⟨h1, h2⟩ := h
  unfold Dk.write; split <;> (try split) <;> simp [h1, h2]

/-- What holds of a disk that is only written, n writes behind New(m). -/
structure Dk.Fit (d : Dk) (m n : Nat) : Prop where
  ok : d.Ok
  len : d.sure.length = m
  pend : d.pend.length ≤ n
  writes : d.writes ≤ n
  reads : d.reads ≤ n

theorem Dk.Fit.write {d : Dk} {m n : Nat} (h : d.Fit m n) (i : Int) (s : ByteArray) : (d.write i s).Fit m (n + 1) :=
  ⟨Dk.write_ok' h.ok i s, by rw [Dk.write_length]; exact h.len, by have := Dk.write_pend d i s; have := h.pend; omega, by have := Dk.write_writes d i s; have := h.writes; omega, by rw [Dk.write_reads]; have := h.reads; omega⟩
theorem Dk.Fit.read {d : Dk} {m n : Nat} (h : d.Fit m n) (i : Int) : (d.read i).Fit m (n + 1) := by
  have h1 := h.pend; have h2 := h.writes; have h3 := h.reads
  refine ⟨Dk.read_ok' h.ok i, ?_, ?_, ?_, ?_⟩ <;> (unfold Dk.read; split) <;> (try simp only) <;> first | exact h.len | omega
theorem Dk.Fit.new (m : Nat) (h : m ≤ 16384) : (Dk.new m).Fit m 0 := ⟨Dk.new_ok m h, by simp [Dk.new], by simp [Dk.new], by simp [Dk.new], by simp [Dk.new]⟩
theorem Dk.Fit.mono {d : Dk} {m n n' : Nat} (h : d.Fit m n) (hn : n ≤ n') : d.Fit m n' := by
  have h1 := h.pend; have h2 := h.writes; have h3 := h.reads
  exact ⟨h.ok, h.len, by omega, by omega, by omega⟩
theorem Dk.Fit.crash {d : Dk} {m n : Nat} (h : d.Fit m n) (keep : List Int) (t c : Int) : (d.crash keep t c).Fit m n :=
  ⟨Dk.crash_ok' h.ok keep t c, by unfold Dk.crash; simp only; rw [Dk.crashes_length]; exact h.len, by simp [Dk.crash], h.writes, h.reads⟩
theorem Dk.Fit.sync {d : Dk} {m n : Nat} (h : d.Fit m n) : d.sync.Fit m n := by
  refine ⟨Dk.sync_ok' h.ok, ?_, ?_, ?_, ?_⟩ <;> (unfold Dk.sync Dk.settle; split) <;> first | exact h.len | exact h.pend | exact h.writes | exact h.reads | skip
  · simp only; rw [Dk.syncs_length]; exact h.len
  · simp
theorem Dk.Fit.puts {d : Dk} {m n : Nat} (h : d.Fit m n) (l : List Act4) : (d.puts l).Fit m (n + l.length) := by
  induction l generalizing d n with
  | nil => exact h
  | cons x l ih =>
    have := ih (h.write x.I (pageS x.B))
    rw [List.length_cons, show n + (l.length + 1) = n + 1 + l.length from by omega]
    exact this

/-- What is sure of the first k sectors, as values. -/
def sures (d : Dk) (k : Nat) : List Value := (List.range k).map fun (i : Nat) => Value.string (d.sureS (i : Int))
theorem sures_length (d : Dk) (k : Nat) : (sures d k).length = k := by simp [sures]
theorem sures_succ (d : Dk) (k : Nat) : sures d (k + 1) = sures d k ++ [.string (d.sureS (k : Int))] := by simp [sures, List.range_succ]
theorem sures_get (d : Dk) (k j : Nat) (h : j < k) : (sures d k)[j]? = some (.string (d.sureS (j : Int))) := by simp [sures, h]

theorem row_cell {e : TypeId} {g n c : Nat} {xs : List Value} {F : Asn} {w : World} (H : Sat (Row e 1 (.slice (some ⟨g, 0, none⟩) n c) n xs * F) w) (j : Nat) (v : Value) (h : xs[j]? = some v) : w.cell? ⟨g, j, none⟩ = some v := by
  have a0 := H.owns.cells (g := g) rfl j v h
  have e0 : (⟨g, 0, none⟩ : Addr).add j = ⟨g, j, none⟩ := by unfold Addr.add; split <;> simp_all
  rwa [e0] at a0

/-- The disk d, k sectors of it read. -/
def Dk.seen (d : Dk) (k : Nat) : Dk := { d with reads := d.reads + k }
theorem Dk.seen_step (d : Dk) (k : Nat) (i : Int) (h : d.down = false) (h0 : 0 ≤ i) (h1 : i < (d.sure.length : Int)) : (d.seen k).read i = d.seen (k + 1) ∧ (d.seen k).atE i = 0 ∧ (d.pend = [] → (d.seen k).readS i = d.sureS i) := by
  have e : (d.seen k).atE i = 0 := by simp [Dk.atE, Dk.seen, h, h0, h1]
  refine ⟨?_, e, ?_⟩
  · simp only [Dk.read, e, if_true]
    simp [Dk.seen]
    omega
  · intro hp
    simp only [Dk.readS, e, if_true]
    simp [Dk.now, Dk.seen, hp, Dk.last, Dk.sureS, h0, h1]
theorem Dk.Fit.seen {d : Dk} {m n : Nat} (h : d.Fit m n) (k : Nat) : (d.seen k).Fit m (n + k) :=
  ⟨⟨h.ok.sect, h.ok.many, h.ok.rng, h.ok.txt, h.ok.left, by have := h.ok.reads; simp [Dk.seen]; omega, h.ok.writes⟩, h.len, by have := h.pend; simp [Dk.seen]; omega, by have := h.writes; simp [Dk.seen]; omega, by have := h.reads; simp [Dk.seen]; omega⟩

section
variable {w : World} {R : Ending → World → Prop}