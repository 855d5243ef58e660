/-
  A reader's end: Left, End, by their walks. It proves no statement by itself.
-/
import Derived.Test.YtpccdadobnhpkaaDoorPgC
import Derived.Test.YtpccdadobnhpkaaDoorPgO
namespace Go.Proofs.YtpccdadobnhpkaaDoor
open Go.RowKit
set_option linter.unusedSimpArgs false
set_option linter.unusedVariables false

theorem empty_no {t : ByteArray} (h : ¬ t = ByteArray.empty) : t.toList.isEmpty = false := by
  rw [Bool.eq_false_iff]
  intro e
  rw [List.isEmpty_iff, ByteArray.toList_eq] at e
  exact h (by rw [← tx_of t, e]; rfl)
/-- What End says. -/
def Rd.fin (r : Rd) : Int := if r.rest = ByteArray.empty then r.err else if r.err = 0 then 11 else r.err

section
variable {F : Asn} {w : World} {R : Ending → World → Prop} {p : Nat} {r : Rd}

theorem left_any (H : Sat (IsRd p r * F) w) (h : R (.returned (.int .i64 (r.rest.size : Nat))) w) :
    Calls Tryd.prog 60 #[.pointer (some ⟨p, 0, none⟩)] w R := by
  obtain ⟨lp, c0, c1, fz⟩ := rd_cells H
  clear H fz
  go_enter Tryd.func60, Tryd.ntmps60
  go_wp2_with fail
  exact h

theorem end_any (H : Sat (IsRd p r * F) w) (h : ∀ w', Sat (IsRd p r * F) w' → Io w w' → R (.returned (.int .i64 r.fin)) w') :
    Calls Tryd.prog 62 #[.pointer (some ⟨p, 0, none⟩)] w R := by
  obtain ⟨lp, c0, c1, fz⟩ := rd_cells H
  by_cases h0 : r.rest = ByteArray.empty
  · have fin := h w H (Io.refl w)
    unfold Rd.fin at fin
    rw [if_pos h0] at fin
    rw [h0] at c0
    have q : (ByteArray.empty.toList == (⟨#[]⟩ : ByteArray).toList) = true := str_eq _
    clear h H fz h0
    go_enter Tryd.func62, Tryd.ntmps62
    go_wp2_with fail
    exact fin
  · have q : r.rest.toList.isEmpty = false := empty_no h0
    have e : r.fin = if r.err = 0 then 11 else r.err := by unfold Rd.fin; rw [if_neg h0]
    rw [e] at h
    have HN := H.new (.cells #[.string ByteArray.empty, .int .i64 r.err] 127)
    have IN := (Io.refl w).alloc (.cells #[.string ByteArray.empty, .int .i64 r.err] 127)
    have HN' : Sat (IsRd w.heap.size ⟨ByteArray.empty, r.err⟩ * (IsRd p r * F)) _ := HN
    clear H fz h0 e HN
    generalize r.rest = t at *
    go_enter Tryd.func62, Tryd.ntmps62
    go_wp2_with fail
    refine fail_any HN' 11 ?_
    intro w1 H1 I1
    obtain ⟨l1, d0, d1, -⟩ := rd_cells H1
    simp only at d1
    generalize (if r.err = 0 then 11 else r.err) = z at *
    go_wp2_with fail
    exact h w1 H1.right (IN.trans I1)
end
end Go.Proofs.YtpccdadobnhpkaaDoor
