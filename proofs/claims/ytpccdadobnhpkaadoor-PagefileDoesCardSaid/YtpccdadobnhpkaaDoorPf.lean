/-
  Files of pages on a disk: slots, as they lie in memory, and what their calls do, by their walks. It proves no statement by itself.
-/
import Derived.Test.YtpccdadobnhpkaaDoorDiskY
namespace Go.Proofs.YtpccdadobnhpkaaDoor
open Go.RowKit
set_option linter.unusedSimpArgs false
set_option linter.unusedVariables false

/-- A FILE ON THE DISK d LIES AT q. -/
def IsPf (q p : Nat) (d : Dk) : Asn := pts q (.cells #[.pointer (some ⟨p, 0, none⟩)] 40 (0, 0)) * IsDk p d

namespace Dk
/-- What a call at slot i errs with. -/
def slotE (d : Dk) (i : Int) : Int := if i < 0 ∨ 2 ≤ i then 40 else d.atE i
def slotS (d : Dk) (i : Int) : ByteArray := if i < 0 ∨ 2 ≤ i then ByteArray.empty else d.readS i
def slotR (d : Dk) (i : Int) : Dk := if i < 0 ∨ 2 ≤ i then d else d.read i
def putE (d : Dk) (i : Int) (s : ByteArray) : Int := if i < 0 ∨ 2 ≤ i then 40 else d.writeE i s
def putR (d : Dk) (i : Int) (s : ByteArray) : Dk := if i < 0 ∨ 2 ≤ i then d else d.write i s
end Dk

section
variable {q p : Nat} {d : Dk} {F : Asn} {w : World} {R : Ending → World → Prop}

theorem pf_cells (H : Sat (IsPf q p d * F) w) : q < w.heap.size ∧ w.cell? ⟨q, 0, none⟩ = some (.pointer (some ⟨p, 0, none⟩)) := by
  have h : Sat (pts q (.cells #[.pointer (some ⟨p, 0, none⟩)] 40 (0, 0)) * (IsDk p d * F)) w := H.of_eq (by unfold IsPf; ac_rfl)
  exact ⟨h.left.lt, Sat.read h.left.at 0⟩
theorem pf_disk (H : Sat (IsPf q p d * F) w) : Sat (IsDk p d * (pts q (.cells #[.pointer (some ⟨p, 0, none⟩)] 40 (0, 0)) * F)) w := H.of_eq (by unfold IsPf; ac_rfl)
theorem pf_back (H : Sat (IsDk p d * (pts q (.cells #[.pointer (some ⟨p, 0, none⟩)] 40 (0, 0)) * F)) w) : Sat (IsPf q p d * F) w := H.of_eq (by unfold IsPf; ac_rfl)

theorem pf_new (H : Sat (IsDk p d * F) w) (h : ∀ q w', Sat (IsPf q p d * F) w' → Io w w' → R (.returned (.pointer (some ⟨q, 0, none⟩))) w') :
    Calls Tryd.prog 8 #[.pointer (some ⟨p, 0, none⟩)] w R := by
  have fin := h _ _ (pf_back ((H.new (.cells #[.pointer (some ⟨p, 0, none⟩)] 40)).of_eq (by ac_rfl))) ((Io.refl w).alloc _)
  clear h
  go_enter Tryd.func8, Tryd.ntmps8
  go_wp2_with fail
  exact fin

theorem pf_new0 (H : Sat F w) (h : ∀ q p w', Sat (IsPf q p (Dk.new 0) * F) w' → Io w w' → R (.returned (.pointer (some ⟨q, 0, none⟩))) w') :
    Calls Tryd.prog 8 #[.pointer none] w R := by
  go_enter Tryd.func8, Tryd.ntmps8
  go_wp2_with fail
  refine new_any 0 (by omega) (by omega) H ?_
  rw [show (min (max 0 0) 16384 : Int).toNat = 0 from rfl]
  intro p w1 H1 I1
  have fin := h _ _ _ (pf_back ((H1.new (.cells #[.pointer (some ⟨p, 0, none⟩)] 40)).of_eq (by ac_rfl))) (I1.alloc _)
  clear h
  go_wp2_with fail
  exact fin

theorem slot_any (i : Int) (h : R (.returned (.int .i64 (if i < 0 ∨ 2 ≤ i then 40 else 0))) w) : Calls Tryd.prog 32 #[.int .i64 i] w R := by
  by_cases h0 : i < 0
  · rw [if_pos (.inl h0)] at h
    have hd : decide (i < 0) = true := by simpa using h0
    go_enter Tryd.func32, Tryd.ntmps32
    go_wp2_with fail
    exact h
  · have hd : decide (i < 0) = false := by simpa using h0
    by_cases h2 : 2 ≤ i
    · rw [if_pos (.inr h2)] at h
      go_enter Tryd.func32, Tryd.ntmps32
      go_wp2_with fail
      exact h
    · rw [if_neg (by omega)] at h
      go_enter Tryd.func32, Tryd.ntmps32
      go_wp2_with fail
      exact h

theorem pf_slot (H : Sat (IsPf q p d * F) w) (ok : d.Ok) (hr : d.reads ≤ 4000000000000000000) (i : Int)
    (h : ∀ w', Sat (IsPf q p (d.slotR i) * F) w' → Io w w' → R (.returned (.tuple #[.string (d.slotS i), .int .i64 (d.slotE i)])) w') :
    Calls Tryd.prog 15 #[.pointer (some ⟨q, 0, none⟩), .int .i64 i] w R := by
  obtain ⟨lq, c0⟩ := pf_cells H
  unfold Dk.slotR Dk.slotS Dk.slotE at h
  by_cases hi : i < 0 ∨ 2 ≤ i
  · simp only [hi, if_true] at h
    have fin := h w H (Io.refl w)
    clear h
    have HI := Lib.hid hi
    clear hi
    go_enter Tryd.func15, Tryd.ntmps15
    go_wp2_with (go_at_call 32; refine slot_any i ?_; rw [if_pos HI.out])
    exact fin
  · simp only [hi, if_false] at h
    have HI := Lib.hid hi
    clear hi
    go_enter Tryd.func15, Tryd.ntmps15
    go_wp2_with (go_at_call 32; refine slot_any i ?_; rw [if_neg HI.out])
    refine read_any (pf_disk H) ok hr i ?_
    intro w1 H1 I1
    have fin := h w1 (pf_back H1) I1
    clear h
    go_wp2_with fail
    exact fin

theorem pf_put (H : Sat (IsPf q p d * F) w) (ok : d.Ok) (hr : d.writes ≤ 4000000000000000000) (hp : d.pend.length ≤ 1000000) (i : Int) (s : ByteArray) (hs : s.size ≤ 1000000)
    (h : ∀ w', Sat (IsPf q p (d.putR i s) * F) w' → Io w w' → R (.returned (.int .i64 (d.putE i s))) w') :
    Calls Tryd.prog 11 #[.pointer (some ⟨q, 0, none⟩), .int .i64 i, .string s] w R := by
  obtain ⟨lq, c0⟩ := pf_cells H
  unfold Dk.putR Dk.putE at h
  by_cases hi : i < 0 ∨ 2 ≤ i
  · simp only [hi, if_true] at h
    have fin := h w H (Io.refl w)
    clear h
    have HI := Lib.hid hi
    clear hi
    go_enter Tryd.func11, Tryd.ntmps11
    go_wp2_with (go_at_call 32; refine slot_any i ?_; rw [if_pos HI.out])
    exact fin
  · simp only [hi, if_false] at h
    have HI := Lib.hid hi
    clear hi
    go_enter Tryd.func11, Tryd.ntmps11
    go_wp2_with (go_at_call 32; refine slot_any i ?_; rw [if_neg HI.out])
    refine write_any (pf_disk H) ok hr hp i s hs ?_
    intro w1 H1 I1
    have fin := h w1 (pf_back H1) I1
    clear h
    go_wp2_with fail
    exact fin