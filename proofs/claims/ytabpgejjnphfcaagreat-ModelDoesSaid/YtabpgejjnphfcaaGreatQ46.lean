/-
  The document's model: New, by its walk. It proves no statement by itself.
-/
import Derived.Test.YtabpgejjnphfcaaGreatKD12
namespace Go.Proofs.YtabpgejjnphfcaaGreat
open Go.RowKit
open Go.Lib
open Md (Nm St)
set_option linter.unusedSimpArgs false
set_option linter.unusedVariables false
set_option linter.unusedSectionVars false
theorem rowOf_lit {α : Type} {enc : α → List Value} {sz : Nat} {e : TypeId} {g : Nat} (he : Enc enc sz) (y : α) {F : Asn} {w : World} (H : Sat (pts g (.cells (enc y).toArray e (0, 0)) * F) w) : Sat (RowOf e sz enc (.slice (some ⟨g, 0, none⟩) 1 1) [y] * F) w := by
  refine sat_row.2 ⟨?_, .inr ⟨g, 1, (enc y).toArray, rfl, by simp, by unfold maxLen; omega, ?_, ?_, H⟩⟩
  · rw [cellsOf_length he]
  · simp [he.len]
  · simp [cellsOf, he.len]
    rw [List.take_of_length_le (by rw [he.len]; exact Nat.le_refl _)]
theorem new_swap {A B C D E F : Asn} {w : World} (H : Sat (A * (B * (C * (D * (E * F))))) w) : Sat (B * (A * (C * (D * (E * F))))) w := H.of_eq (by ac_rfl)
theorem new_swap3 {A B C D E F : Asn} {w : World} (H : Sat (A * (B * (C * (D * (E * F))))) w) : Sat (C * (A * (B * (D * (E * F))))) w := H.of_eq (by ac_rfl)
theorem new_shape (V B Q E D L M F : Asn) : V * (B * (Q * (E * (D * (L * (M * F)))))) = L * (V * B) * (M * (E * (Q * D))) * F := by ac_rfl
section
variable {F : Asn} {w : World} {R : Ending → World → Prop}
set_option maxRecDepth 100000 in
set_option maxHeartbeats 8000000 in
theorem rnew_any (H : Sat F w) (hh : ∀ x w', DocOk 0 Md.init [] x → Sat (DAt x * (Pool [] * F)) w' → Io w w' → R (.returned x.ptr) w') : Calls Tryz.prog 23 #[] w R := by
  have HH := Lib.hid hh
  clear hh
  go_enter Tryz.func23, Tryz.ntmps23
  go_upto_region 2 with fail
  have H1 := H.new (.cells #[.slice none 0 0, .slice none 0 0] 93)
  have H2 := H1.new (.cells #[.slice none 0 0] 22)
  have H3 := H2.new (.cells #[.slice none 0 0] 22)
  have H4 := H3.new (.cells #[.bool false] 4)
  have H5 := H4.new (.cells #[.pointer (some ⟨w.heap.size, 0, none⟩), .slice (some ⟨w.heap.size + 1, 0, none⟩) 1 1, .slice (some ⟨w.heap.size + 1 + 1, 0, none⟩) 1 1, .slice (some ⟨w.heap.size + 1 + 1 + 1, 0, none⟩) 1 1, .int .i64 2] 95)
  have I5 := (((((Io.refl w).alloc (.cells #[.slice none 0 0, .slice none 0 0] 93)).alloc (.cells #[.slice none 0 0] 22)).alloc (.cells #[.slice none 0 0] 22)).alloc (.cells #[.bool false] 4)).alloc (.cells #[.pointer (some ⟨w.heap.size, 0, none⟩), .slice (some ⟨w.heap.size + 1, 0, none⟩) 1 1, .slice (some ⟨w.heap.size + 1 + 1, 0, none⟩) 1 1, .slice (some ⟨w.heap.size + 1 + 1 + 1, 0, none⟩) 1 1, .int .i64 2] 95)
  have hs : ∀ (W : World) (o : Obj), (W.alloc o).heap.size = W.heap.size + 1 := fun W o => by simp
  simp only [hs] at H5
  clear H1 H2 H3 H4 hs
  generalize (((((w.alloc (.cells #[.slice none 0 0, .slice none 0 0] 93)).alloc (.cells #[.slice none 0 0] 22)).alloc (.cells #[.slice none 0 0] 22)).alloc (.cells #[.bool false] 4)).alloc (.cells #[.pointer (some ⟨w.heap.size, 0, none⟩), .slice (some ⟨w.heap.size + 1, 0, none⟩) 1 1, .slice (some ⟨w.heap.size + 1 + 1, 0, none⟩) 1 1, .slice (some ⟨w.heap.size + 1 + 1 + 1, 0, none⟩) 1 1, .int .i64 2] 95)) = w5 at *
  generalize w.heap.size = n at *
  generalize n + 1 + 1 + 1 + 1 = n4 at *
  generalize n + 1 + 1 + 1 = n3 at *
  generalize n + 1 + 1 = n2 at *
  generalize n + 1 = n1 at *
  have J0 : Sat (pts n3 (.cells #[.bool false] 4 (0, 0)) * (pts n1 (.cells #[.slice none 0 0] 22 (0, 0)) * (pts n2 (.cells #[.slice none 0 0] 22 (0, 0)) * (pts n (.cells #[.slice none 0 0, .slice none 0 0] 93 (0, 0)) * (pts n4 (.cells #[.pointer (some ⟨n, 0, none⟩), .slice (some ⟨n1, 0, none⟩) 1 1, .slice (some ⟨n2, 0, none⟩) 1 1, .slice (some ⟨n3, 0, none⟩) 1 1, .int .i64 2] 95 (0, 0)) * F))))) w5 := H5.of_eq (by ac_rfl)
  have J1 := rowOf_lit encBo_ok false J0
  have J1' : Sat (pts n1 (.cells #[.slice none 0 0] 22 (0, 0)) * (RowBo (.slice (some ⟨n3, 0, none⟩) 1 1) [false] * (pts n2 (.cells #[.slice none 0 0] 22 (0, 0)) * (pts n (.cells #[.slice none 0 0, .slice none 0 0] 93 (0, 0)) * (pts n4 (.cells #[.pointer (some ⟨n, 0, none⟩), .slice (some ⟨n1, 0, none⟩) 1 1, .slice (some ⟨n2, 0, none⟩) 1 1, .slice (some ⟨n3, 0, none⟩) 1 1, .int .i64 2] 95 (0, 0)) * F))))) w5 := new_swap J1
  have J2 := rowOf_lit encSl_ok (none, 0, 0) J1'
  have J2' : Sat (pts n2 (.cells #[.slice none 0 0] 22 (0, 0)) * (RowSl (.slice (some ⟨n1, 0, none⟩) 1 1) [(none, 0, 0)] * (RowBo (.slice (some ⟨n3, 0, none⟩) 1 1) [false] * (pts n (.cells #[.slice none 0 0, .slice none 0 0] 93 (0, 0)) * (pts n4 (.cells #[.pointer (some ⟨n, 0, none⟩), .slice (some ⟨n1, 0, none⟩) 1 1, .slice (some ⟨n2, 0, none⟩) 1 1, .slice (some ⟨n3, 0, none⟩) 1 1, .int .i64 2] 95 (0, 0)) * F))))) w5 := new_swap3 J2
  have J3 := rowOf_lit encSl_ok (none, 0, 0) J2'
  have J4 := rowV_nil (rowB_nil J3)
  obtain ⟨x, hx⟩ : ∃ x : Dx, x = { b := n4, l := n, vv := .slice none 0 0, vb := .slice none 0 0, ve := .slice (some ⟨n1, 0, none⟩) 1 1, vq := .slice (some ⟨n2, 0, none⟩) 1 1, vd := .slice (some ⟨n3, 0, none⟩) 1 1, V := [], B := [], E := [((none, 0, 0), [])], Q := [((none, 0, 0), [])], D := [false], n := 2 } := ⟨_, rfl⟩
  have K5 : Sat (DAt x * F) w5 := by
    rw [hx]
    refine J4.of_eq ?_
    show _ = pts n (.cells #[.slice none 0 0, .slice none 0 0] 93 (0, 0)) * (RowV (.slice none 0 0) [] * RowB (.slice none 0 0) []) * (pts (n4) (.cells #[.pointer (some ⟨n, 0, none⟩), .slice (some ⟨n1, 0, none⟩) 1 1, .slice (some ⟨n2, 0, none⟩) 1 1, .slice (some ⟨n3, 0, none⟩) 1 1, .int .i64 2] 95 (0, 0)) * (RowSl (.slice (some ⟨n1, 0, none⟩) 1 1) [(none, 0, 0)] * (RowSl (.slice (some ⟨n2, 0, none⟩) 1 1) [(none, 0, 0)] * RowBo (.slice (some ⟨n3, 0, none⟩) 1 1) [false]))) * F
    exact new_shape _ _ _ _ _ _ _ _
  clear J0 J1 J1' J2 J2' J3 J4 H5
  have hb : x.b = n4 := by rw [hx]
  have hl : x.l = n := by rw [hx]
  have HX := Lib.hid hx
  rw [← hb, ← hl]
  have hmk : Md.mk [(⟨1, 0, 0, 0⟩ : Md.Ver)] [] (⟨#[109, 97, 105, 110]⟩ : Nm) 1 = (0, [⟨⟨#[109, 97, 105, 110]⟩, 1⟩]) := by
    have e1 : Md.nameOk (⟨#[109, 97, 105, 110]⟩ : Nm) = true := by decide
    have e2 : Md.vplace [(⟨1, 0, 0, 0⟩ : Md.Ver)] 1 = 0 := by simp [Md.vplace, List.findIdx_cons]
    unfold Md.mk
    rw [if_neg (by rw [e1]; simp), if_neg (by simp), if_neg (by rw [e2]; simp), if_neg (by simp)]
    simp
  have HMK : Hid (Md.mk (x.V ++ [(⟨1, 0, 0, 0⟩ : Md.Ver)]) x.B (⟨#[109, 97, 105, 110]⟩ : Nm) 1 = (0, [⟨⟨#[109, 97, 105, 110]⟩, 1⟩])) := Lib.hid (by rw [HX.out]; exact hmk)
  have hV : x.V = [] := by rw [HX.out]
  have hB : x.B = [] := by rw [HX.out]
  have HVL : Hid (x.V.length ≤ 100000 ∧ (x.V ++ [(⟨1, 0, 0, 0⟩ : Md.Ver)]).length ≤ 100000 ∧ x.B.length ≤ 100000 ∧ (∀ y ∈ x.V, y.id < (⟨1, 0, 0, 0⟩ : Md.Ver).id)) := Lib.hid (by rw [hV, hB]; simp)
  clear hmk hV hB hx hb hl
  obtain ⟨c0, c1, c2, c3, c4⟩ := DAt.cells K5
  go_wp2_with (first
    | (go_at_call 50; with_reducible refine rput_any (⟨1, 0, 0, 0⟩ : Md.Ver) ⟨by decide, by decide⟩ ⟨by decide, by decide⟩ rfl ⟨by decide, by decide⟩ HVL.out.1 HVL.out.2.2.2 (DAt.asL K5) ?_; intro vv' w6 H6 I6; obtain ⟨e0, e1, e2, e3, e4, e5⟩ := DMC.cells H6.right)
    | (go_at_call 51; with_reducible refine rmake_any (⟨#[109, 97, 105, 110]⟩ : Nm) 1 (by decide) HVL.out.2.1 HVL.out.2.2.1 HMK H6 ?_; intro vb' w7 H7 I7))
  have K7 := DAt.setL H7
  have okk : DocOk 0 Md.init [] { x with vv := vv', vb := vb', V := x.V ++ [⟨1, 0, 0, 0⟩], B := [⟨⟨#[109, 97, 105, 110]⟩, 1⟩] } := by
    refine ⟨Md.inv_init, ?_, ⟨?_, ?_⟩, by simp⟩
    · rw [HX.out]; exact Md.sim_init
    · rw [HX.out]
      intro y hy
      simp only [List.mem_singleton] at hy
      subst hy
      exact .inl ⟨rfl, rfl⟩
    · rw [HX.out]
      intro y hy
      simp only [List.mem_singleton] at hy
      subst hy
      exact .inl ⟨rfl, rfl⟩
  refine HH.out { x with vv := vv', vb := vb', V := x.V ++ [⟨1, 0, 0, 0⟩], B := [⟨⟨#[109, 97, 105, 110]⟩, 1⟩] } _ okk ?_ ((I5.trans I6).trans I7)
  have e : Pool [] * F = F := star_emp F
  rw [e]
  exact K7
end
end Go.Proofs.YtabpgejjnphfcaaGreat
