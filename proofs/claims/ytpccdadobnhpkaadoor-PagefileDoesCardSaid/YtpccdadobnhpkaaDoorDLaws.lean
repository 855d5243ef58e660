/-
  What holds of disks, in plain words, and rows that are stored into. It proves no statement by itself.
-/
import Derived.Test.YtpccdadobnhpkaaDoorBreaks
namespace Go.Proofs.YtpccdadobnhpkaaDoor
open Go.RowKit
set_option linter.unusedSimpArgs false
set_option linter.unusedVariables false

theorem extract_all (s : ByteArray) (n : Nat) (h : s.size ≤ n) : s.extract 0 n = s := by
  apply ByteArray.ext
  have h2 : s.data.size ≤ n := h
  rw [ByteArray.data_extract]
  rw [Array.extract_eq_self_of_le h2]
theorem extract_none (s : ByteArray) (n m : Nat) (h : s.size ≤ n) : s.extract n m = ByteArray.empty := by
  apply ByteArray.ext
  have h2 : s.data.size ≤ n := h
  rw [ByteArray.data_extract]
  apply Array.eq_empty_of_size_eq_zero
  simp; omega

namespace Dk

theorem done_full (sure : List ByteArray) (q : Int × ByteArray) (hq : q.2.size = 256) (hs : (sure.getD q.1.toNat ByteArray.empty).size ≤ 256) : done sure q 256 = sure.set q.1.toNat q.2 := by
  unfold done
  rw [extract_all _ _ (by omega), extract_none _ _ _ hs, append_none]

theorem size_le (sure : List ByteArray) (h : ∀ i, i < sure.length → (sure.getD i ByteArray.empty).size = 256) (i : Nat) : (sure.getD i ByteArray.empty).size ≤ 256 := by
  by_cases hi : i < sure.length
  · rw [h i hi]; omega
  · rw [List.getD_eq_getElem?_getD, List.getElem?_eq_none (by omega)]; exact Nat.zero_le _

theorem last_cons (i : Int) (p : Int × ByteArray) (l : List (Int × ByteArray)) : last i (p :: l) = match last i l with | some s => some s | none => if p.1 = i then some p.2 else none := rfl

theorem syncs_get : ∀ (l : List (Int × ByteArray)) (sure : List ByteArray), (∀ i, i < sure.length → (sure.getD i ByteArray.empty).size = 256) → (∀ q ∈ l, 0 ≤ q.1 ∧ q.1 < (sure.length : Int)) → (∀ q ∈ l, q.2.size = 256) →
    ∀ j, j < sure.length → (syncs sure l).getD j ByteArray.empty = (last (j : Int) l).getD (sure.getD j ByteArray.empty)
  | [], sure, _, _, _, j, _ => rfl
  | q :: l, sure, hs, hr, ht, j, hj => by
    have e := done_full sure q (ht q (List.mem_cons_self ..)) (size_le sure hs _)
    have hq := hr q (List.mem_cons_self ..)
    show (syncs (done sure q 256) l).getD j ByteArray.empty = _
    rw [syncs_get l (done sure q 256) (done_sect hs (ht q (List.mem_cons_self ..)) (by omega)) (by rw [done_length]; exact fun r h => hr r (List.mem_cons_of_mem _ h)) (fun r h => ht r (List.mem_cons_of_mem _ h)) j (by rw [done_length]; exact hj)]
    rw [last_cons]
    cases hl : last (j : Int) l with
    | some s => rfl
    | none =>
      simp only [Option.getD_none]
      rw [e]
      by_cases h : q.1 = (j : Int)
      · have hjq : q.1.toNat = j := by omega
        rw [if_pos h, hjq]
        simp [List.getD, hj]
      · have hjq : ¬ q.1.toNat = j := by omega
        rw [if_neg h]
        simp [List.getD, List.getElem?_set_ne hjq]

theorem now_sync {d : Dk} (ok : d.Ok) (hd : d.down = false) (j : Nat) (hj : j < d.sure.length) : d.sync.now j = d.now j ∧ d.sync.sure.getD j ByteArray.empty = d.now j := by
  have e : d.sync = d.settle (syncs d.sure d.pend) := by simp [sync, hd]
  have h := syncs_get d.pend d.sure ok.sect ok.rng ok.txt j hj
  rw [e]
  constructor
  · show (last (j : Int) []).getD ((syncs d.sure d.pend).getD j ByteArray.empty) = _
    rw [h]
    rfl
  · exact h

theorem now_write {d : Dk} (i : Int) (s : ByteArray) (he : d.writeE i s = 0) (j : Nat) : (d.write i s).now j = if i = (j : Int) then s else d.now j := by
  have h1 : d.atE i = 0 := by
    unfold writeE at he
    split at he
    · rename_i h; exact absurd he h
    · rename_i h; exact Decidable.not_not.1 h
  have h2 : s.size = 256 := by
    unfold writeE at he
    rw [if_neg (by simp [h1])] at he
    split at he
    · omega
    · rename_i h; exact Decidable.not_not.1 h
  have e : (d.write i s).pend = d.pend ++ [(i, s)] ∧ (d.write i s).sure = d.sure := by simp [write, h1, h2]
  unfold now
  rw [e.1, e.2, last_snoc]
  split <;> rfl

theorem write_same {d : Dk} (i : Int) (s : ByteArray) (hl : d.left = -1) (he : d.writeE i s ≠ 0) : d.write i s = d := by
  unfold write
  unfold writeE at he
  split
  · rfl
  · rename_i h1
    rw [if_neg h1] at he
    split
    · rfl
    · rename_i h2
      rw [if_neg h2, hl] at he
      simp at he

theorem crashes_other (keep : List Int) (t c : Int) (j : Nat) : ∀ (l : List (Int × ByteArray)) (k : Nat) (sure : List ByteArray), (∀ q ∈ l, q.1.toNat ≠ j) → (crashes keep t c k l sure).getD j ByteArray.empty = sure.getD j ByteArray.empty
  | [], k, sure, _ => rfl
  | q :: l, k, sure, h => by
    unfold crashes
    rw [crashes_other keep t c j l (k + 1) _ fun r hr => h r (List.mem_cons_of_mem _ hr)]
    split
    · have := h q (List.mem_cons_self ..)
      simp [done, List.getD, List.getElem?_set_ne this]
    · rfl

theorem crashes_all (keep : List Int) (c : Int) : ∀ (l : List (Int × ByteArray)) (k : Nat) (sure : List ByteArray), (∀ j, j < l.length → keep.contains ((k + j : Nat) : Int) = true) → crashes keep (-1) c k l sure = syncs sure l
  | [], k, sure, _ => rfl
  | q :: l, k, sure, h => by
    have h0 := h 0 (by simp)
    rw [Nat.add_zero] at h0
    unfold crashes
    rw [h0]
    have hc : comes (-1) c k = 256 := by unfold comes; rw [if_neg (by omega)]
    rw [hc, if_pos rfl]
    show crashes keep (-1) c (k + 1) l (done sure q 256) = syncs (done sure q 256) l
    exact crashes_all keep c l (k + 1) _ fun j hj => by rw [show k + 1 + j = k + (j + 1) from by omega]; exact h (j + 1) (by simp; omega)

end Dk

/-- What the first n sectors read as, as values. -/
def nows (d : Dk) (n : Nat) : List Value := (List.range n).map fun (i : Nat) => Value.string (d.now i)
theorem nows_length (d : Dk) (k : Nat) : (nows d k).length = k := by simp [nows]
theorem nows_succ (d : Dk) (k : Nat) : nows d (k + 1) = nows d k ++ [.string (d.now k)] := by simp [nows, List.range_succ]
theorem nows_get (d : Dk) (k j : Nat) (h : j < k) : (nows d k)[j]? = some (.string (d.now j)) := by simp [nows, h]
theorem nows_congr (d d' : Dk) (k : Nat) (h : ∀ j, j < k → d.now j = d'.now j) : nows d k = nows d' k := by
  unfold nows
  apply List.map_congr_left
  intro j hj
  rw [h j (List.mem_range.1 hj)]

/-- A row of one-cell things is stored into. -/
theorem row_set {e : TypeId} {g n c : Nat} {xs : List Value} {F : Asn} {w : World} (H : Sat (Row e 1 (.slice (some ⟨g, 0, none⟩) n c) n xs * F) w) (j : Nat) (hj : j < n) (v : Value) :
    Sat (Row e 1 (.slice (some ⟨g, 0, none⟩) n c) n (xs.set j v) * F) (w.setCell ⟨g, j, none⟩ v) := by
  obtain ⟨hl, ⟨h0, _⟩ | ⟨g', cap, cur, e1, e2, e3, e4, e5, h⟩⟩ := sat_row.1 H
  · cases h0
  · cases e1
    refine sat_row.2 ⟨by rw [List.length_set]; exact hl, .inr ⟨g, c, cur.setIfInBounds j v, rfl, e2, e3, by simpa using e4, ?_, h.cell j v⟩⟩
    rw [Array.toList_setIfInBounds, ← e5, List.take_set]

theorem row_free {e : TypeId} {g n c : Nat} {xs : List Value} {F : Asn} {w : World} (H : Sat (Row e 1 (.slice (some ⟨g, 0, none⟩) n c) n xs * F) w) (j : Nat) : w.frozen? ⟨g, j, none⟩ = false ∧ g < w.heap.size := by
  obtain ⟨hl, ⟨h0, _⟩ | ⟨g', cap, cur, e1, e2, e3, e4, e5, h⟩⟩ := sat_row.1 H
  · cases h0
  · cases e1
    exact ⟨Sat.free h.left.at j, h.left.lt⟩

end Go.Proofs.YtpccdadobnhpkaaDoor
