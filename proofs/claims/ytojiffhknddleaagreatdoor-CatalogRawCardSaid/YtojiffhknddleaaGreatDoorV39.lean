/-
  Whether a text is a branch's name, by its walk. It proves no statement by itself.
-/
import Derived.Test.YtojiffhknddleaaGreatDoorRows
import Derived.Test.YtojiffhknddleaaGreatDoorV20
import Derived.Test.YtojiffhknddleaaGreatDoorV08
import Derived.Test.YtojiffhknddleaaGreatDoorV11
import Derived.Deep.RegionHeld3
import Derived.Deep.CutRange
import Derived.Deep.CutBlock
import Derived.Laws.RangeAny
namespace Go.Proofs.YtojiffhknddleaaGreatDoor
open Go.RowKit Go.Lib
open Md (Nm St)
set_option linter.unusedSimpArgs false
set_option linter.unusedVariables false
set_option linter.unusedSectionVars false
theorem name_at {s : ByteArray} {k : Nat} (hk : k < s.size) (ho : Md.okByte (s[k]'hk) = true) : (Utf8.decode s k).2 = 1 ∧ ((97 ≤ (Utf8.decode s k).1 ∧ (Utf8.decode s k).1 ≤ 122) ∨ (48 ≤ (Utf8.decode s k).1 ∧ (Utf8.decode s k).1 ≤ 57) ∨ (Utf8.decode s k).1 = 45) := by
  unfold Md.okByte at ho
  simp only [decide_eq_true_eq] at ho
  have ha : (s[k]'hk).toNat < 128 := by omega
  rw [decode_ascii s k hk ha]
  exact ⟨rfl, ho⟩
theorem name_not {s : ByteArray} {k : Nat} (hk : k < s.size) (ho : Md.okByte (s[k]'hk) = false) : ¬ ((97 ≤ (Utf8.decode s k).1 ∧ (Utf8.decode s k).1 ≤ 122) ∨ (48 ≤ (Utf8.decode s k).1 ∧ (Utf8.decode s k).1 ≤ 57) ∨ (Utf8.decode s k).1 = 45) := by
  unfold Md.okByte at ho
  simp only [decide_eq_false_iff_not] at ho
  by_cases ha : (s[k]'hk).toNat < 128
  · rw [decode_ascii s k hk ha]; exact ho
  · have := (decode_high s k hk (by omega)).1
    omega
def okTo (s : ByteArray) (k : Nat) : Prop := ∀ j (hj : j < s.size), j < k → Md.okByte (s[j]'hj) = true
theorem nameOk_of {s : ByteArray} (h : okTo s s.size) : Md.nameOk s = decide (1 ≤ s.size ∧ s.size ≤ 12) := by
  unfold Md.nameOk
  have : s.data.toList.all Md.okByte = true := by
    rw [List.all_eq_true]
    intro x hx
    obtain ⟨j, hj, rfl⟩ := List.mem_iff_getElem.1 hx
    have hj' : j < s.size := by simpa using hj
    exact h j hj' hj'
  rw [this, Bool.true_and]
theorem nameOk_not {s : ByteArray} {k : Nat} (hk : k < s.size) (ho : Md.okByte (s[k]'hk) = false) : Md.nameOk s = false := by
  unfold Md.nameOk
  have : s.data.toList.all Md.okByte = false := by
    rw [List.all_eq_false]
    refine ⟨s[k]'hk, ?_, by rw [ho]; simp⟩
    exact List.getElem_mem (by simpa using hk)
  rw [this, Bool.false_and]
section
variable {F : Asn} {w : World} {R : Ending → World → Prop}
set_option maxRecDepth 100000 in
set_option maxHeartbeats 4000000 in
theorem name_any (s : ByteArray) (hsz : s.size ≤ 9223372036854775807) {d : Bool} (hd : Hid (d = Md.nameOk s)) (H : Sat F w) (h : ∀ w', Sat F w' → Io w w' → R (.returned (.bool d)) w') : Calls Tryz.prog 13 #[.string s] w R := by
  have HH := Lib.hid h
  clear h
  have HI := Lib.hid (fun k => (H.alloc (.stringIter s k) : Sat F (w.iter s k)))
  have II := Lib.hid (fun k => ((Io.refl w).alloc (.stringIter s k) : Io w (w.iter s k)))
  have NX := fun k (hk : k < s.size) => run_next_any (P := Tryz.prog) w s k 0 hk
  go_enter Tryz.func13, Tryz.ntmps13
  go_wp2_with fail
  go_loopw [7] (fun _ wr => ∃ k : Nat, k ≤ s.size ∧ Hid (okTo s k) ∧ wr = w.iter s k) (fun _ wr => s.size - wr.iterPos w.heap.size)
  case atStart => exact ⟨0, by omega, Lib.hid (fun j _ hj => by omega), rfl⟩
  case round =>
    obtain ⟨k, hk, ho, rfl⟩ := hrel
    have Hk := HI.out
    by_cases hlt : k < s.size
    · have hnx := NX k hlt
      have HA := Lib.hid (fun h => name_at (s := s) hlt h)
      have HB := Lib.hid (fun h => name_not (s := s) hlt h)
      have HD := Lib.hid (decode_le s k)
      obtain ⟨ok, hok⟩ : ∃ b, b = Md.okByte (s[k]'hlt) := ⟨_, rfl⟩
      have HO := Lib.hid hok
      clear hok NX
      generalize hr : (Utf8.decode s k).1 = r at *
      generalize hw : (Utf8.decode s k).2 = wd at *
      cases ok with
      | true =>
        obtain ⟨rfl, hcase⟩ := HA.out HO.out.symm
        have HN : Hid (okTo s (k + 1)) := Lib.hid (fun j hj hjk => by
          by_cases e : j = k
          · subst e; exact HO.out.symm
          · exact ho.out j hj (by omega))
        clear HA HB HD HO hr hw
        rcases hcase with ⟨h1, h2⟩ | ⟨h1, h2⟩ | h1
        · have q1 : ¬ (r : Int) < 97 := by omega
          have q2 : ¬ (122 : Int) < (r : Int) := by omega
          clear h1 h2
          go_wp2_with fail
          go_roundw
          case rel => exact ⟨k + 1, by omega, HN, rfl⟩
          case measure => simp; omega
        · have q1 : (r : Int) < 97 := by omega
          have q2 : ¬ (r : Int) < 48 := by omega
          have q3 : ¬ (57 : Int) < (r : Int) := by omega
          clear h1 h2
          go_wp2_with fail
          go_roundw
          case rel => exact ⟨k + 1, by omega, HN, rfl⟩
          case measure => simp; omega
        · subst h1
          go_wp2_with fail
          go_roundw
          case rel => exact ⟨k + 1, by omega, HN, rfl⟩
          case measure => simp; omega
      | false =>
        have hcase := HB.out HO.out.symm
        have HN := nameOk_not hlt HO.out.symm
        have hf : d = false := hd.out.trans HN
        have fin := HH.out _ (Hk (k + wd)) (II.out (k + wd))
        clear hd HN
        subst hf
        clear HA HB HD HO hr hw
        by_cases h1 : (r : Int) < 97
        · by_cases h2 : (r : Int) < 48
          · have q3 : ¬ (r : Int) = 45 := by omega
            clear hcase
            go_wp2_with fail
            exact fin
          · have q3 : (57 : Int) < (r : Int) := by omega
            have q4 : ¬ (r : Int) = 45 := by omega
            clear hcase
            go_wp2_with fail
            exact fin
        · have q2 : (122 : Int) < (r : Int) := by omega
          have q3 : ¬ (r : Int) < 48 := by omega
          have q4 : (57 : Int) < (r : Int) := by omega
          have q5 : ¬ (r : Int) = 45 := by omega
          clear hcase
          go_wp2_with fail
          exact fin
    · obtain rfl : k = s.size := by omega
      have hnx := run_next_end (P := Tryz.prog) w s s.size 0 hlt
      have HN := nameOk_of ho.out
      have HD := hd.out.trans HN
      have fin := HH.out _ (Hk s.size) (II.out s.size)
      clear hd HN NX Hk HH
      by_cases h0 : s.size = 0
      · have hs : s = ⟨#[]⟩ := by
          obtain ⟨a⟩ := s
          have : a.size = 0 := h0
          rw [Array.eq_empty_of_size_eq_zero this]
        have hf : d = false := by rw [HD, h0]; simp
        subst hf
        subst hs
        have hz : (⟨#[]⟩ : ByteArray).size = 0 := rfl
        rw [hz] at hnx fin
        clear HD
        go_wp2_with fail
        exact fin
      · have hne : s ≠ ⟨#[]⟩ := by rintro rfl; exact h0 rfl
        have hnl2 : ¬ s.toList = [] := by
          intro e
          rw [ByteArray.toList_eq] at e
          exact hne (by obtain ⟨a⟩ := s; congr 1; exact Array.toList_inj.1 e)
        have hie : s.toList.isEmpty = false := by cases hq : s.toList with
          | nil => exact absurd hq hnl2
          | cons _ _ => rfl
        by_cases h12 : s.size ≤ 12
        · have h12i : (s.size : Int) ≤ 12 := by omega
          have hf : d = true := by rw [HD]; simp; omega
          subst hf
          clear HD
          go_wp2_with fail
          exact fin
        · have h12i : ¬ (s.size : Int) ≤ 12 := by omega
          have hf : d = false := by rw [HD]; simp; omega
          subst hf
          clear HD
          go_wp2_with fail
          exact fin
end
end Go.Proofs.YtojiffhknddleaaGreatDoor
