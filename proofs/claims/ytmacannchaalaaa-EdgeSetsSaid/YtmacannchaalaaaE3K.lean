/-
  Rows of pairs that came in, slices.Clone on them, and when two pairs are one. It proves no statement by itself.
-/
import Derived.Test.YtmacannchaalaaaE3S
import Derived.Test.YtmacannchaalaaaE3A
namespace Go.Proofs.Ytmacannchaalaaa
open Go.RowKit Go.Shelf Go.Lib
set_option linter.unusedSimpArgs false
set_option linter.unusedVariables false

section
variable {F : Asn} {w : World} {R : Ending → World → Prop} {l : List Pr} {v : Value}
theorem owns_sat {w' : World} {v' : Value} (H : Sat F w) (n : Nat) (xs : List Value) (e : TypeId) (size : Nat) (h : w'.ownsRow w.heap.size e size v' n xs) (b : Below w.heap.size w w') : Sat (Row e size v' n xs * F) w' := by
  have H' : Sat F w' := H.keep fun k hk => b.block k hk
  obtain ⟨hl, hr⟩ := h
  rcases hr with ⟨rfl, rfl⟩ | ⟨g, cap, cur, e1, e2, e3, e4, e5, e6, e7⟩
  · exact sat_row.2 ⟨hl, .inl ⟨rfl, rfl, H'⟩⟩
  · exact sat_row.2 ⟨hl, .inr ⟨g, cap, cur, e1, e4, e5, e6, e7, H.fresh e2 e3 fun k hk => b.block k hk⟩⟩
set_option maxRecDepth 100000 in
set_option maxHeartbeats 1000000 in
theorem clone_empty (ad : Addr) (c : Nat) (H : Sat F w) (h : ∀ v' w', Sat (Row 25 2 v' 0 (pv []) * F) w' → Io w w' → R (.returned v') w') :
    Calls Try.prog 39 #[.slice (some ad) 0 c] w R := by
  have HH := Lib.hid h
  have H0 := H.new (.cells #[] 25)
  have I0 := (Io.refl w).alloc (.cells #[] 25)
  have H1 : Sat (RowP (.slice (some ⟨w.heap.size, 0, none⟩) 0 0) [] * F) (w.alloc (.cells #[] 25)) := sat_row.2 ⟨rfl, .inr ⟨w.heap.size, 0, #[], rfl, Nat.le_refl _, by unfold maxLen; omega, rfl, rfl, H0⟩⟩
  have hu : Hid (ReadsP F (.slice (some ad) 0 c) []) := Lib.hid ⟨some ad, c, rfl, by simp, .inl rfl⟩
  have q22 : ∀ (w : World) (a : Option Addr) (n c n' c' : Nat), (binOp .eql 39 (.slice a n c) (.slice none n' c')).run Try.prog w = .ok (.bool a.isNone) w := fun w a n c n' c' => Lib.run_eql_slice_nil w _ _ a n c n' c' Try.underlying39
  clear h H H0
  go_enter Try.func39, Try.ntmps39
  go_wp2_with (at_builtin; refine wpList_append_pairs rfl (.tmp 5) (.tmp 6) rfl rfl H1 (by simp) (by simp) rfl hu.out ?_; intro v3 w3 H3 I3)
  exact HH.out _ _ H3 (I0.trans I3)
/-- slices.Clone. -/
theorem clone_any (hv : ReadsP F v l) (hl : l.length ≤ 1000000) (H : Sat F w) (h : ∀ v' w', Sat (Row 25 2 v' l.length (pv l) * F) w' → Io w w' → R (.returned v') w') :
    Calls Try.prog 39 #[v] w R := by
  obtain ⟨a, c, rfl, _, hr⟩ := hv
  rcases hr with rfl | ⟨b, off, rfl, hc⟩
  · cases a with
    | none =>
      have hcon := AnyE.slices_Clone_nil Try.clonePairs 0 c w
      change Calls Try.prog 39 _ _ _ at hcon
      refine hcon.mono ?_
      rintro e w' ⟨rfl, rfl⟩
      exact h _ _ (row_nil _ _ _ _ H) (Io.refl _)
    | some ad => exact clone_empty ad c H h
  · obtain ⟨i0, hi, hz0, hz1, hz2⟩ := info_parts Try.info25
    have hcon := AnyE.slices_Clone Try.clonePairs i0 _ 2 16 hi hz0 hz1 hz2 rfl (by decide) Try.sizeOf25 b off l.length c (pv l) w (pv_length l) (by unfold maxLen; omega) (by omega) (hc w H) (pv_one l)
    change Calls Try.prog 39 _ _ _ at hcon
    refine hcon.mono ?_
    rintro e w' ⟨v', rfl, ho, _, hb⟩
    exact h v' w' (owns_sat H _ _ _ _ ho hb) ⟨hb.os, hb.tape, hb.output, hb.size⟩
end
end Go.Proofs.Ytmacannchaalaaa
