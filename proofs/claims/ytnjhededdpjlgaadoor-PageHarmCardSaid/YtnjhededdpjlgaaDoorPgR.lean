/-
  The document's pages: Check, by its walk. It proves no statement by itself.
-/
import Derived.Test.YtnjhededdpjlgaaDoorPgB
namespace Go.Proofs.YtnjhededdpjlgaaDoor
open Go.RowKit
set_option linter.unusedSimpArgs false
set_option linter.unusedVariables false

/-- The number that bytes tell. -/
def unB (s : ByteArray) : Nat := un s.data.toList

section
variable {F : Asn} {w : World} {R : Ending → World → Prop}
theorem rint_B (s : ByteArray) (hs : s.size ≤ 4) (h : R (.returned (.int .i64 (unB s : Nat))) w) : Calls Tryd.prog 28 #[.string s] w R := rint_any s hs h
theorem rsum_B (s : ByteArray) (hs : s.size ≤ 1000000) (h : R (.returned (.int .i64 (crcB s : Nat))) w) : Calls Tryd.prog 21 #[.string s] w R := rsum_any s hs h

set_option maxRecDepth 100000 in
set_option maxHeartbeats 2000000 in
theorem rchk_any (H : Sat F w) (s : ByteArray) (hs : s.size ≤ 1000000) (h : ∀ w', Sat F w' → Io w w' → R (.returned (.bool (chkB s))) w') :
    Calls Tryd.prog 14 #[.string s] w R := by
  have hs' : (s.size : Int) ≤ 1000000 := by omega
  by_cases h256 : s.size = 256
  · have e : chkB s = (((unB (s.extract 0 4) : Nat) : Int) == ((crcB (s.extract 4 s.size) : Nat) : Int)) := by
      rw [h256]
      unfold chkB crcB unB
      rw [h256]
      simp only [decide_true, Bool.true_and]
      rw [Bool.eq_iff_iff, beq_iff_eq, beq_iff_eq]
      omega
    rw [e] at h
    have hq : ((s.size : Int) == 256) = true := by rw [beq_iff_eq]; omega
    have i4 : (4 : Int) ≤ (s.size : Int) := by omega
    have z4 : Hid ((s.extract 0 4).size ≤ 4) := Lib.hid (by rw [ByteArray.size_extract]; omega)
    have zz : Hid ((s.extract 4 s.size).size ≤ 1000000) := Lib.hid (by rw [ByteArray.size_extract]; omega)
    have HH := Lib.hid h
    have HD := H.drew
    have ID := (Io.refl w).drew
    clear h e h256 hs
    go_enter Tryd.func14, Tryd.ntmps14
    go_wp2_with fail
    go_region_held3 (fun _ => True) (exact True.intro) (first
      | (go_at_call 28; with_reducible refine rint_B _ z4.out ?_)
      | (go_at_call 21; with_reducible refine rsum_B _ zz.out ?_))
    all_goals
      have fin := HH.out _ HD ID
      clear HH
      generalize unB (s.extract 0 4) = n1 at *
      generalize crcB (s.extract 4 s.size) = n2 at *
      go_wp2_with fail
      exact fin
  · have e : chkB s = false := by unfold chkB; simp [h256]
    rw [e] at h
    have hq : ((s.size : Int) == 256) = false := by rw [beq_eq_false_iff_ne]; omega
    have HH := Lib.hid h
    clear h e h256 hs
    go_enter Tryd.func14, Tryd.ntmps14
    go_wp2_with fail
    go_quiet (fail)
    go_wp2_with fail
    exact HH.out _ (H.drewN _) ((Io.refl w).drewN _)
end
end Go.Proofs.YtnjhededdpjlgaaDoor
