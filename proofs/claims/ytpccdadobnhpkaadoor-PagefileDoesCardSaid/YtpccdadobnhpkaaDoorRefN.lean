/-
  What the document's disk's New does, by its walk. It proves no statement by itself.
-/
import Derived.Test.YtpccdadobnhpkaaDoorRefC
import Derived.Test.YtpccdadobnhpkaaDoorAp2
import Derived.Deep.RegionLaw
namespace Go.Proofs.YtpccdadobnhpkaaDoor
open Go.RowKit
set_option linter.unusedSimpArgs false
set_option linter.unusedVariables false

section
variable {q : Nat} {sf wf sv wv : Value} {d : Dk} {ss : List ByteArray} {l : List (Int × ByteArray)} {F : Asn} {w : World} {R : Ending → World → Prop}

/-- A disk without sectors. -/
def nod : Dk := ⟨[], [], -1, false, 0, 0⟩

theorem svals_more (k : Nat) (z : ByteArray) : svals (List.replicate k z) ++ [.string z] = svals (List.replicate (k + 1) z) := by
  simp [svals, List.replicate_succ']

set_option maxHeartbeats 2000000 in
set_option maxRecDepth 100000 in
theorem rf_new (n : Int) (hn0 : -9223372036854775808 ≤ n) (hn1 : n ≤ 9223372036854775807) (H : Sat F w)
    (h : ∀ q w', Sat (IsRf q (Dk.new (min (max n 0) 16384).toNat) * F) w' → Io w w' → R (.returned (.pointer (some ⟨q, 0, none⟩))) w') :
    Calls Tryd.prog 18 #[.int .i64 n] w R := by
  obtain ⟨i0, hi, hz0, hz1, hz2⟩ := info_parts Tryd.info9
  have hm0 : 0 ≤ min (max n 0) 16384 := by omega
  have hm1 : min (max n 0) 16384 ≤ 16384 := by omega
  have HH : Hid (∀ q w', Sat (IsRf q (Dk.new (min (max n 0) 16384).toNat) * F) w' → Io w w' → R (.returned (.pointer (some ⟨q, 0, none⟩))) w') := h
  clear h
  have H0 : Sat (RfMid w.heap.size (.slice none 0 0) (.slice none 0 0) nod (.slice none 0 0) (List.replicate 0 (rp 256 0)) (.slice none 0 0) [] * F) (w.alloc (.cells #[.slice none 0 0, .slice none 0 0, .bool false, .int .i64 (-1), .int .i64 0, .int .i64 0] 58)) := by
    rw [rf_srow]
    refine row_nil _ _ _ _ ?_
    have := H.new (.cells #[.slice none 0 0, .slice none 0 0, .bool false, .int .i64 (-1), .int .i64 0, .int .i64 0] 58)
    exact (row_nil 86 2 _ _ this).of_eq (by simp only [rfCells, nod, pcells, List.flatMap_nil, List.length_nil]; ac_rfl)
  have I0 := (Io.refl w).alloc (.cells #[.slice none 0 0, .slice none 0 0, .bool false, .int .i64 (-1), .int .i64 0, .int .i64 0] 58)
  go_enter Tryd.func18, Tryd.ntmps18
  go_wp2_with fail
  generalize w.alloc (.cells #[.slice none 0 0, .slice none 0 0, .bool false, .int .i64 (-1), .int .i64 0, .int .i64 0] 58) = w0 at *
  generalize w.heap.size = q at *
  go_loopw [4] (fun x wr => ∃ (k : Nat) (sv : Value), (k : Int) ≤ min (max n 0) 16384 ∧ x = .int .i64 (k : Int) ∧ Sat (RfMid q sv (.slice none 0 0) nod sv (List.replicate k (rp 256 0)) (.slice none 0 0) [] * F) wr ∧ Io w wr) (fun x _ => (min (max n 0) 16384).toNat - (intOf x).toNat)
  case atStart => exact ⟨0, _, hm0, rfl, H0, I0⟩
  case round =>
    obtain ⟨k, sv, hk, rfl, Hk, Ik⟩ := hrel
    clear H0 I0 H
    by_cases hlt : (k : Int) < min (max n 0) 16384
    · have S := rf_seen Hk
      have lq := S.lp
      have b0 := S.c0
      have f0 := S.fz 0
      have hms := Lib.hid (svals_more k (rp 256 0))
      have Hr : Sat (Row 9 1 sv k (svals (List.replicate k (rp 256 0))) * (pts q (.cells (rfCells sv (.slice none 0 0) nod) 58 (0, 0)) * (Row 86 2 (.slice none 0 0) 0 (pcells []) * F))) wr.drew := by
        have := rf_srow ▸ Hk.drew
        rw [List.length_replicate] at this
        exact this
      have hrp := Lib.hid (rfl : rp 256 0 = rp 256 0)
      clear S Hk
      generalize hz : rp 256 0 = z at *
      have HZ := Lib.hid hz
      have kd : ∀ {g c : Nat} {W : World}, Sat (Row 9 1 (.slice (some ⟨g, 0, none⟩) (k + 1) c) (k + 1) (svals (List.replicate k z) ++ [.string z]) * (pts q (.cells (rfCells sv (.slice none 0 0) nod) 58 (0, 0)) * (Row 86 2 (.slice none 0 0) 0 (pcells []) * F))) W → Sat (RfMid q sv (.slice none 0 0) nod (.slice (some ⟨g, 0, none⟩) (k + 1) c) (List.replicate (k + 1) z) (.slice none 0 0) [] * F) W := by
        intro g c W hW
        rw [rf_srow, ← hms.out, List.length_replicate]
        exact hW
      have KD := @Lib.hid _ @kd
      clear kd hz
      go_wp2_with fail
      go_region_law (first | (refine step_append_new (by rfl) (.tmp 18) (.tmp 20) 28 (by rfl) 9 Tryd.underlying28 hi hz0 hz1 hz2 rfl (by rfl) Hr 1 1 [.string z] (by rfl) (by rfl) rfl rfl (by omega) (by omega) (by omega) ?_; intro g1 k1 w2 H2 I2; have lq2 := (rf_seen (KD.out H2)).lp; have f02 := (rf_seen (KD.out H2)).fz 0; have c02 := (rf_seen (KD.out H2)).c0) | (go_simp; go_at_call 40; refine zero_doc _ ?_; rw [HZ.out]))
      all_goals
       go_wp2_with fail
       go_roundw
       case rel => exact ⟨k + 1, _, by omega, by go_num, rf_sf (KD.out H2) _, ((Ik.drew.trans I2).setCell _ _)⟩
       case measure => simp [intOf]; omega
    · have hkn : k = (min (max n 0) 16384).toNat := by omega
      have fin := HH.out q _ (rf_done Hk (Dk.new (min (max n 0) 16384).toNat) (by rw [hkn]; rfl) rfl rfl rfl rfl rfl) Ik
      clear Hk Ik HH hkn
      go_wp2_with fail
      exact fin
end
end Go.Proofs.YtpccdadobnhpkaaDoor
