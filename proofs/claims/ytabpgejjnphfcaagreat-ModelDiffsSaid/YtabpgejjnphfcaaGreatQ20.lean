/-
  Edges: Sort, Minus, Diff, by their walks. It proves no statement by itself.
-/
import Derived.Test.YtabpgejjnphfcaaGreatQ18
import Derived.Test.YtabpgejjnphfcaaGreatQ19
import Derived.Test.YtabpgejjnphfcaaGreatQ14
import Derived.Shelf.SlSortCmp.NoneTotal
namespace Go.Proofs.YtabpgejjnphfcaaGreat
open Go.RowKit Go.Shelf
set_option linter.unusedSimpArgs false
set_option linter.unusedVariables false

section
variable {F : Asn} {w : World} {R : Ending → World → Prop} {l : List Pr} {v : Value}

theorem sortnone_any (a : Option Addr) (c : Nat) (fv : Value) (h : R (.returned (.tuple #[])) w) : Calls Tryz.prog 117 #[.slice a 0 c, fv] w R := by
  have hcon := AnyF.slices_SortFunc_none Tryz.sortPairs a c fv w
  change Calls Tryz.prog 117 _ _ _ at hcon
  refine hcon.mono ?_
  rintro e w' ⟨rfl, rfl⟩
  exact h

set_option maxRecDepth 100000 in
set_option maxHeartbeats 2000000 in
theorem sort_any (hv : ReadsP F v l) (hl : l.length ≤ 1000000) (H : Sat F w) (h : ∀ v' w', Sat (RowP v' (Eg.sort l) * F) w' → Io w w' → R (.returned v') w') :
    Calls Tryz.prog 96 #[v] w R := by
  have HH := Lib.hid h
  clear h
  by_cases h0 : l.length = 0
  · have e0 : l = [] := List.eq_nil_of_length_eq_zero h0
    subst e0
    go_enter Tryz.func96, Tryz.ntmps96
    go_wp2_with (first
      | (go_at_call 68; with_reducible refine clone_any hv hl H ?_; intro v1 w1 H1 I1; obtain ⟨a1, c1, rfl, m1⟩ := readsP_len (readsP_row (l := []) H1 hl))
      | (go_at_call 117; refine sortnone_any a1 c1 _ ?_)
      | (go_at_call 118; refine compact_any (l := []) H1 (by simp) ?_; intro v2 w2 H2 I2))
    exact HH.out _ _ H2 (I1.trans I2)
  · go_enter Tryz.func96, Tryz.ntmps96
    go_wp2_with (first
      | (go_at_call 68; with_reducible refine clone_any hv hl H ?_; intro v1 w1 H1 I1; obtain ⟨g1, c1, rfl⟩ := row_shape H1 (by omega))
      | (go_at_call 117; refine sortfunc_any H1 hl ?_; intro l' w2 hm hw hlen H2 I2; have H2' : Sat (RowP (.slice (some ⟨g1, 0, none⟩) l.length c1) l' * F) w2 := by (unfold RowP; rw [hlen]; exact H2))
      | (go_at_call 118; refine compact_any (l := l') H2' (by omega) ?_; intro v3 w3 H3 I3))
    refine HH.out _ _ ?_ ((I1.trans I2).trans I3)
    rw [← Eg.sort_of (Eg.srt_uniq l' hw) (l := l) (fun x => by rw [Eg.mem_uniq, hm])]
    exact H3

end

namespace Eg

theorem mMinus_snoc (m : List (Pr × Bool × Bool)) (p : Pr) (o t : Bool) : mMinus (m ++ [(p, o, t)]) = if (o && !t) = true then mMinus m ++ [p] else mMinus m := by
  unfold mMinus
  rw [List.filter_append, List.map_append]
  cases o <;> cases t <;> simp

theorem mDiff_snoc (m : List (Pr × Bool × Bool)) (p : Pr) (o t : Bool) : mDiff (m ++ [(p, o, t)]) = if (o != t) = true then mDiff m ++ [(p, t)] else mDiff m := by
  unfold mDiff
  rw [List.filter_append, List.map_append]
  cases o <;> cases t <;> simp

theorem mMinus_len (m : List (Pr × Bool × Bool)) : (mMinus m).length ≤ m.length := by
  unfold mMinus
  rw [List.length_map]
  exact List.length_filter_le _ _

theorem mDiff_len (m : List (Pr × Bool × Bool)) : (mDiff m).length ≤ m.length := by
  unfold mDiff
  rw [List.length_map]
  exact List.length_filter_le _ _

end Eg

theorem var_cells {x : Value} {t : TypeId} {b : Nat} {R : Asn} {w : World} (H : Sat (pts b (.cells #[x] t (0, 0)) * R) w) : w.cell? ⟨b, 0, none⟩ = some x ∧ w.frozen? ⟨b, 0, none⟩ = false := ⟨Sat.read H.left.at 0, Sat.free H.left.at 0⟩

theorem row_slice {e : TypeId} {sz n : Nat} {v : Value} {xs : List Value} {F : Asn} {w : World} (H : Sat (Row e sz v n xs * F) w) : ∃ a m c, v = .slice a m c := by
  obtain ⟨hx, ⟨rfl, h0, _⟩ | ⟨g, cap, cur, rfl, _⟩⟩ := sat_row.1 H
  · exact ⟨_, _, _, rfl⟩
  · exact ⟨_, _, _, rfl⟩

/-- What Minus has gathered, in its variable. -/
def AM (b : Nat) (m : List (Pr × Bool × Bool)) : Asn := ex fun v => pts b (.cells #[v] 22 (0, 0)) * RowP v (Eg.mMinus m)
def AD (b : Nat) (m : List (Pr × Bool × Bool)) : Asn := ex fun v => pts b (.cells #[v] 33 (0, 0)) * RowC v (Eg.mDiff m)
section
variable {F : Asn} {w : World} {R : Ending → World → Prop}

set_option maxRecDepth 100000 in
set_option maxHeartbeats 2000000 in
theorem difff_any (b : Nat) (m : List (Pr × Bool × Bool)) (hm : m.length ≤ 1000000) (p : Pr) (o t : Bool) (H : Sat (AD b m * F) w) (h : ∀ w', Sat (AD b (m ++ [(p, o, t)]) * F) w' → Io w w' → R (.returned (.tuple #[])) w') :
    Calls Tryz.prog 97 #[.agg #[.int .i64 p.1, .int .i64 p.2], .bool o, .bool t, .pointer (some ⟨b, 0, none⟩)] w R := by
  obtain ⟨v, Hv⟩ := sat_ex.1 H
  obtain ⟨p1, p2⟩ := p
  have hl := Eg.mDiff_len m
  have e := Eg.mDiff_snoc m (p1, p2) o t
  generalize Eg.mDiff m = l at *
  have H0 := Hv.of_eq (show _ = pts b (.cells #[v] 33 (0, 0)) * (RowC v l * F) from by ac_rfl)
  have HP := H0.new (.cells #[.int .i64 p1, .int .i64 p2] 49)
  have IP := (Io.refl w).alloc (.cells #[.int .i64 p1, .int .i64 p2] 49)
  cases hc : (o != t) with
  | true =>
    obtain rfl : t = !o := by cases o <;> cases t <;> simp_all
    clear hc
    cases o with
    | true =>
      simp only [Bool.not_true] at *
      rw [if_pos (by decide)] at e
      have HH := Lib.hid h
      have HE := Lib.hid e
      clear h e H Hv H0
      obtain ⟨c0, c1⟩ := box_cells HP
      obtain ⟨d0, d1⟩ := var_cells HP.right
      have HQ := HP.of_eq (show _ = RowC v l * (pts w.heap.size (.cells #[.int .i64 p1, .int .i64 p2] 49 (0, 0)) * (pts b (.cells #[v] 33 (0, 0)) * F)) from by ac_rfl)
      go_enter Tryz.func97, Tryz.ntmps97
      go_wp2_with (at_builtin; refine wpList_append_rec Tryz.rowC encC_ok rfl (.tmp 10) (.tmp 14) rfl rfl HQ (by omega) ((p1, p2), false) rfl (by simp) ?_; intro v3 w3 H3 I3; obtain ⟨z0, z1⟩ := var_cells H3.right.right; obtain ⟨a3, n3, c3, rfl⟩ := row_slice H3)
      go_end0
      refine HH.out _ ?_ ((IP.trans I3).setCell _ _)
      refine sat_ex.2 ⟨.slice a3 n3 c3, ?_⟩
      rw [HE.out]
      have H4 := (H3.of_eq (show _ = pts b (.cells #[v] 33 (0, 0)) * (pts w.heap.size (.cells #[.int .i64 p1, .int .i64 p2] 49 (0, 0)) * (RowC (.slice a3 n3 c3) (l ++ [((p1, p2), false)]) * F)) from by unfold RowC; ac_rfl)).cell 0 (.slice a3 n3 c3)
      exact (H4.mid).of_eq (by simp; unfold RowC; ac_rfl)
    | false =>
      simp only [Bool.not_false] at *
      rw [if_pos (by decide)] at e
      have HH := Lib.hid h
      have HE := Lib.hid e
      clear h e H Hv H0
      obtain ⟨c0, c1⟩ := box_cells HP
      obtain ⟨d0, d1⟩ := var_cells HP.right
      have HQ := HP.of_eq (show _ = RowC v l * (pts w.heap.size (.cells #[.int .i64 p1, .int .i64 p2] 49 (0, 0)) * (pts b (.cells #[v] 33 (0, 0)) * F)) from by ac_rfl)
      go_enter Tryz.func97, Tryz.ntmps97
      go_wp2_with (at_builtin; refine wpList_append_rec Tryz.rowC encC_ok rfl (.tmp 10) (.tmp 14) rfl rfl HQ (by omega) ((p1, p2), true) rfl (by simp) ?_; intro v3 w3 H3 I3; obtain ⟨z0, z1⟩ := var_cells H3.right.right; obtain ⟨a3, n3, c3, rfl⟩ := row_slice H3)
      go_end0
      refine HH.out _ ?_ ((IP.trans I3).setCell _ _)
      refine sat_ex.2 ⟨.slice a3 n3 c3, ?_⟩
      rw [HE.out]
      have H4 := (H3.of_eq (show _ = pts b (.cells #[v] 33 (0, 0)) * (pts w.heap.size (.cells #[.int .i64 p1, .int .i64 p2] 49 (0, 0)) * (RowC (.slice a3 n3 c3) (l ++ [((p1, p2), true)]) * F)) from by unfold RowC; ac_rfl)).cell 0 (.slice a3 n3 c3)
      exact (H4.mid).of_eq (by simp; unfold RowC; ac_rfl)
  | false =>
    rw [hc, if_neg (by simp)] at e
    have fin := h _ (sat_ex.2 ⟨v, by rw [e]; exact HP.right.of_eq (show _ = pts b (.cells #[v] 33 (0, 0)) * RowC v l * F from by ac_rfl)⟩) IP
    clear h e HP IP H Hv H0
    obtain rfl : o = t := by cases o <;> cases t <;> simp_all
    cases o with
    | false =>
      go_enter Tryz.func97, Tryz.ntmps97
      go_wp2_with fail
      go_end0
      exact fin
    | true =>
      go_enter Tryz.func97, Tryz.ntmps97
      go_wp2_with fail
      go_end0
      exact fin

theorem am_nil {b : Nat} {G : Asn} (H : Sat (RowP (.slice none 0 0) [] * (pts b (.cells #[.slice none 0 0] 22 (0, 0)) * G)) w) : Sat (AM b [] * G) w := by
  unfold AM
  refine sat_ex.2 ⟨.slice none 0 0, H.of_eq ?_⟩
  show RowP (.slice none 0 0) [] * _ = pts b _ * RowP (.slice none 0 0) [] * G
  ac_rfl

theorem ad_nil {b : Nat} {G : Asn} (H : Sat (RowC (.slice none 0 0) [] * (pts b (.cells #[.slice none 0 0] 33 (0, 0)) * G)) w) : Sat (AD b [] * G) w := by
  unfold AD
  refine sat_ex.2 ⟨.slice none 0 0, H.of_eq ?_⟩
  show RowC (.slice none 0 0) [] * _ = pts b _ * RowC (.slice none 0 0) [] * G
  ac_rfl

set_option maxRecDepth 100000 in
set_option maxHeartbeats 4000000 in
theorem diff_any {l m : List Pr} {v u : Value} (hv : ReadsP F v l) (hl : l.length ≤ 100000) (hu : ReadsP F u m) (hm : m.length ≤ 100000) (H : Sat F w) (h : ∀ v' w', Sat (RowC v' (Eg.diff l m) * F) w' → Io w w' → R (.returned v') w') :
    Calls Tryz.prog 67 #[v, u] w R := by
  have HH := Lib.hid h
  clear h
  have h1 := Eg.sort_len l
  have h2 := Eg.sort_len m
  have hf := Eg.mDiff_eq l m
  generalize hL : Eg.sort l = L at *
  generalize hM : Eg.sort m = M at *
  have HL := Lib.hid hL
  have HM := Lib.hid hM
  clear hL hM
  have H0 := H.new (.cells #[.slice none 0 0] 33)
  have I0 := (Io.refl w).alloc (.cells #[.slice none 0 0] 33)
  have eg : ∀ args w, (callFunc 97 args).run Tryz.prog w = .ok (.enter 97 args) w := enters_of Tryz.func97 (by kernel_rfl) rfl
  go_enter Tryz.func67, Tryz.ntmps67
  go_wp2_with (first
    | (go_at_call 96; first
      | (with_reducible refine sort_any (F := pts w.heap.size (.cells #[.slice none 0 0] 33 (0, 0)) * F) hv.with (by omega) H0 ?_; intro v1 w1 H1 I1; rw [HL.out] at H1)
      | (with_reducible refine sort_any (l := m) (F := RowP v1 L * (pts w.heap.size (.cells #[.slice none 0 0] 33 (0, 0)) * F)) hu.with.with (by omega) H1 ?_; intro v2 w2 H2 I2; rw [HM.out] at H2; have HB := (H2.of_eq (show _ = RowP v2 M * (pts w.heap.size (.cells #[.slice none 0 0] 33 (0, 0)) * (RowP v1 L * F)) from by ac_rfl)); have HVA := Lib.hid ((readsP_row HB.right.right (by omega)).with (G := RowP v2 M)); have HVB := Lib.hid (readsP_row HB.mid (by omega)); have FA := vfit_row HB.right.right; have FB := vfit_row H2; have H3 : Sat (AD w.heap.size [] * (RowP v2 M * (RowP v1 L * F))) w2 := ad_nil (rowOf_nil (H2.of_eq (show _ = pts w.heap.size (.cells #[.slice none 0 0] 33 (0, 0)) * (RowP v2 M * (RowP v1 L * F)) from by ac_rfl)))))
    | (go_at_call 95; refine merge_any (A := AD w.heap.size) (F := RowP v2 M * (RowP v1 L * F)) HVA.out FA HVB.out FB 97 #[.pointer (some ⟨w.heap.size, 0, none⟩)] eg (fun m p o t w R hm H h => difff_any _ m (by omega) p o t H h) H3 ?_; intro w3 H4 I3; obtain ⟨v3, H5⟩ := sat_ex.1 H4; rw [hf] at H5; obtain ⟨z0, _⟩ := var_cells (H5.of_eq (star_assoc _ _ _))))
  refine HH.out _ _ ?_ (((I0.trans I1).trans I2).trans I3)
  exact (H5.of_eq (show _ = RowC v3 (Eg.diff l m) * (((pts w.heap.size (.cells #[v3] 33 (0, 0)) * (RowP v2 M * RowP v1 L))) * F) from by ac_rfl)).mid

end

end Go.Proofs.YtabpgejjnphfcaaGreat
