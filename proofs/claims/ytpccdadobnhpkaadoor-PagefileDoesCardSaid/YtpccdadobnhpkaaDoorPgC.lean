/-
  Pages and their bytes: what Check does, by its walk. It proves no statement by itself.
-/
import Derived.Test.YtpccdadobnhpkaaDoorPgW
import Derived.Test.YtpccdadobnhpkaaDoorRtD
import Derived.Deep.RegionHeld3
namespace Go.Proofs.YtpccdadobnhpkaaDoor
open Go.RowKit
set_option linter.unusedSimpArgs false
set_option linter.unusedVariables false

/-- Is the check right? -/
def chkB (s : ByteArray) : Bool := decide (s.size = 256) && (un (s.extract 0 4).data.toList == crcL (s.extract 4 256).data.toList)

/-- The check of a text. -/
def crcB (s : ByteArray) : Nat := crcL s.data.toList

theorem sat_swap {A B C : Asn} {w : World} (h : Sat (A * (B * C)) w) : Sat (B * (A * C)) w := h.of_eq (by ac_rfl)

section
variable {F : Asn} {w : World} {R : Ending → World → Prop} {p : Nat} {r : Rd}

theorem int4_any (H : Sat (IsRd p r * F) w) (hs : r.rest.size ≤ 1000000) (h : ∀ w', Sat (IsRd p (r.bR ((4 : Nat) : Int)) * F) w' → Io w w' → R (.returned (.int .i64 (r.num 4 : Nat))) w') :
    Calls Tryd.prog 58 #[.pointer (some ⟨p, 0, none⟩), .int .i64 4] w R := int_any H hs 4 (.inr (.inr rfl)) h
theorem int2_any (H : Sat (IsRd p r * F) w) (hs : r.rest.size ≤ 1000000) (h : ∀ w', Sat (IsRd p (r.bR ((2 : Nat) : Int)) * F) w' → Io w w' → R (.returned (.int .i64 (r.num 2 : Nat))) w') :
    Calls Tryd.prog 58 #[.pointer (some ⟨p, 0, none⟩), .int .i64 2] w R := int_any H hs 2 (.inr (.inl rfl)) h
theorem int1_any (H : Sat (IsRd p r * F) w) (hs : r.rest.size ≤ 1000000) (h : ∀ w', Sat (IsRd p (r.bR ((1 : Nat) : Int)) * F) w' → Io w w' → R (.returned (.int .i64 (r.num 1 : Nat))) w') :
    Calls Tryd.prog 58 #[.pointer (some ⟨p, 0, none⟩), .int .i64 1] w R := int_any H hs 1 (.inl rfl) h

theorem sum_cell {b : Nat} {s : ByteArray} (hv : Hv F) (H : Sat (pts b (.cells #[.string s] 9 (0, 0)) * F) w) (hs : s.size ≤ 1000000) (h : ∀ w', Sat (pts b (.cells #[.string s] 9 (0, 0)) * F) w' → Io w w' → R (.returned (.int .i64 (crcB s : Nat))) w') :
    Calls Tryd.prog 56 #[.slice (some ⟨b, 0, none⟩) 1 1] w R :=
  sum_any hv.with H b 1 s hs (fun w' h => Sat.read h.left.at 0) h

theorem ext_all (s : ByteArray) : s.extract 0 s.size = s := by
  apply ByteArray.ext
  apply Array.ext'
  rw [Rt.ext_list, List.drop_zero]
  exact List.take_of_length_le (Nat.le_refl _)

theorem num4_at (s : ByteArray) (h : 4 ≤ s.size) : Rd.num ⟨s, 0⟩ 4 = un (s.extract 0 4).data.toList := by
  have := (bR_at s 0 4 (by omega)).2
  rw [ext_all] at this
  unfold Rd.num
  rw [this]

set_option maxRecDepth 100000 in
set_option maxHeartbeats 2000000 in
theorem chk_any (hv : Hv F) (H : Sat F w) (s : ByteArray) (hs : s.size ≤ 1000000) (h : ∀ w', Sat F w' → Io w w' → R (.returned (.bool (chkB s))) w') :
    Calls Tryd.prog 61 #[.string s] w R := by
  have hs' : (s.size : Int) ≤ 1000000 := by omega
  by_cases h256 : s.size = 256
  · have e : chkB s = (((Rd.num ⟨s, 0⟩ 4 : Nat) : Int) == ((crcB (s.extract 4 s.size) : Nat) : Int)) := by
      rw [num4_at s (by omega), h256]
      unfold chkB crcB
      rw [h256]
      simp only [decide_true, Bool.true_and]
      rw [Bool.eq_iff_iff, beq_iff_eq, beq_iff_eq]
      omega
    rw [e] at h
    have hq : ((s.size : Int) == 256) = true := by rw [beq_iff_eq]; omega
    have h4 : 4 ≤ s.size := by omega
    have i4 : (4 : Int) ≤ (s.size : Int) := by omega
    have hz : Hid ((s.extract 4 s.size).size ≤ 1000000) := Lib.hid (by rw [ByteArray.size_extract]; omega)
    have HZ : Hid ((⟨s, 0⟩ : Rd).rest.size ≤ 1000000) := Lib.hid hs
    have HH := Lib.hid h
    have HD := H.drew
    have ID := (Io.refl w).drew
    have HE := (H.new (.cells #[.string (s.extract 4 s.size)] 9)).drew
    have IE := ((Io.refl w).alloc (.cells #[.string (s.extract 4 s.size)] 9)).drew
    clear h e h256 hs
    go_enter Tryd.func61, Tryd.ntmps61
    go_wp2_with fail
    go_region_held3 (fun _ => True) (exact True.intro) (first
      | (go_at_call 57; with_reducible refine read_new HD s ?_; intro p w1 H1 I1; have J1 := ID.trans I1; have H1b := sat_swap (H1.new (.cells #[.string (s.extract 4 s.size)] 9)); have J1b := J1.alloc (.cells #[.string (s.extract 4 s.size)] 9))
      | (go_at_call 57; with_reducible refine read_new HE s ?_; intro p w1 H1 I1; have J1 := IE.trans I1)
      | (go_at_call 58; with_reducible refine int4_any H1 HZ.out ?_; intro w2 H2 I2; have J2 := J1.trans I2)
      | (go_at_call 58; with_reducible refine int4_any H1b HZ.out ?_; intro w2 H2 I2; have J2 := J1b.trans I2)
      | (go_at_call 56; with_reducible refine sum_cell hv.with (H2.new _) hz.out ?_; intro w3 H3 I3; have J3 := (J2.alloc _).trans I3)
      | (go_at_call 56; with_reducible refine sum_cell hv.with (sat_swap H2) hz.out ?_; intro w3 H3 I3; have J3 := J2.trans I3))
    all_goals
      have fin := HH.out w3 H3.right.right J3
      clear HH H3 H2 H1 J3 J2 J1
      generalize Rd.num ⟨s, 0⟩ 4 = n1 at *
      generalize crcB (s.extract 4 s.size) = n2 at *
      go_wp2_with fail
      exact fin
  · have e : chkB s = false := by unfold chkB; simp [h256]
    rw [e] at h
    have hq : ((s.size : Int) == 256) = false := by rw [beq_eq_false_iff_ne]; omega
    have HH := Lib.hid h
    clear h e h256 hs
    go_enter Tryd.func61, Tryd.ntmps61
    go_wp2_with fail
    go_quiet (fail)
    go_wp2_with fail
    exact HH.out _ (H.drewN _) ((Io.refl w).drewN _)
end
end Go.Proofs.YtpccdadobnhpkaaDoor
