/-
  A reader's end: Left, End, by their walks. It proves no statement by itself.
-/
import Derived.Test.YtmacannchaalaaaCodJ
namespace Go.Proofs.Ytmacannchaalaaa
open Go.RowKit
set_option linter.unusedSimpArgs false
set_option linter.unusedVariables false

theorem empty_no {t : ByteArray} (h : ¬ t = ByteArray.empty) : t.toList.isEmpty = false := by
  rw [Bool.eq_false_iff]
  intro e
  rw [List.isEmpty_iff, ByteArray.toList_eq] at e
  exact h (by rw [← tx_of t, e]; rfl)
/-- What End says. -/
def Rd.fin (r : Rd) : Int := if r.rest = ByteArray.empty then r.err else if r.err = 0 then 11 else r.err

section
variable {F : Asn} {w : World} {R : Ending → World → Prop} {p : Nat} {r : Rd}

theorem end_any (H : Sat (IsRd p r * F) w) (h : ∀ w', Sat (IsRd p r * F) w' → Io w w' → R (.returned (.int .i64 r.fin)) w') :
    Calls Try.prog 35 #[.pointer (some ⟨p, 0, none⟩)] w R := by
  obtain ⟨lp, c0, c1, fz⟩ := rd_cells H
  by_cases h0 : r.rest = ByteArray.empty
  · have fin := h w H (Io.refl w)
    unfold Rd.fin at fin
    rw [if_pos h0] at fin
    rw [h0] at c0
    have q : (ByteArray.empty.toList == (⟨#[]⟩ : ByteArray).toList) = true := by simp
    clear h H fz h0
    go_enter Try.func35, Try.ntmps35
    go_wp2_with fail
    exact fin
  · have q : r.rest.toList.isEmpty = false := empty_no h0
    have e : r.fin = if r.err = 0 then 11 else r.err := by unfold Rd.fin; rw [if_neg h0]
    rw [e] at h
    have HN := H.new (.cells #[.string ByteArray.empty, .int .i64 r.err] 75)
    have IN := (Io.refl w).alloc (.cells #[.string ByteArray.empty, .int .i64 r.err] 75)
    have HN' : Sat (IsRd w.heap.size ⟨ByteArray.empty, r.err⟩ * (IsRd p r * F)) _ := HN
    clear H fz h0 e HN
    generalize r.rest = t at *
    go_enter Try.func35, Try.ntmps35
    go_wp2_with fail
    refine fail_any HN' 11 ?_
    intro w1 H1 I1
    obtain ⟨l1, d0, d1, -⟩ := rd_cells H1
    simp only at d1
    generalize (if r.err = 0 then 11 else r.err) = z at *
    go_wp2_with fail
    exact h w1 H1.right (IN.trans I1)
end
end Go.Proofs.Ytmacannchaalaaa
