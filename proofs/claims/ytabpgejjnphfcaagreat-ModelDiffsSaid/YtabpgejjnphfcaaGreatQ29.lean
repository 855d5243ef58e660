/-
  slices.Insert and slices.Delete on a row of pairs, by their walks. It proves no statement by itself.
-/
import Derived.Test.YtabpgejjnphfcaaGreatQ27
import Derived.Lib.Overlaps
import Derived.Shelf.RegionOpenPlain
namespace Go.Proofs.YtabpgejjnphfcaaGreat
open Go.RowKit
set_option linter.unusedSimpArgs false
set_option linter.unusedVariables false

section
variable {F : Asn} {w : World} {R : Ending → World → Prop} {l : List Pr} {v : Value}
theorem row_shape? {g n c : Nat} {xs : List Value} {sz : Nat} {e : TypeId} {F : Asn} {w : World} (H : Sat (Row e sz (.slice (some ⟨g, 0, none⟩) n c) n xs * F) w) : w.shape? g = some (e, c * sz) := by
  obtain ⟨hl, ⟨h0, _⟩ | ⟨g', cap, cur, e1, e2, e3, e4, e5, h⟩⟩ := sat_row.1 H
  · cases h0
  · cases e1
    have hg := h.left.at
    simp [World.shape?, hg, e4]
theorem box_shape? {x y : Value} {t : TypeId} {b : Nat} {R : Asn} {w : World} (H : Sat (pts b (.cells #[x, y] t (0, 0)) * R) w) : w.shape? b = some (t, 2) := by
  have hg := H.left.at
  simp [World.shape?, hg]
theorem row_ne {g n c b : Nat} {o : Obj} {xs : List Value} {sz : Nat} {e : TypeId} {F : Asn} {w : World} (H : Sat (Row e sz (.slice (some ⟨g, 0, none⟩) n c) n xs * (pts b o * F)) w) : b ≠ g := by
  obtain ⟨hl, ⟨h0, _⟩ | ⟨g', cap, cur, e1, e2, e3, e4, e5, h⟩⟩ := sat_row.1 H
  · cases h0
  · cases e1
    rintro rfl
    exact Sat.ne (h.of_eq (star_assoc _ _ _).symm).left rfl
set_option maxRecDepth 100000 in
set_option maxHeartbeats 4000000 in
theorem insert_room {g c vb cc : Nat} {x1 x2 : Int} (i : Nat) (hi : i < l.length) (hl : l.length ≤ 100000) (hroom : l.length + 1 ≤ c) (H : Sat (RowP (.slice (some ⟨g, 0, none⟩) l.length c) l * (pts vb (.cells #[.int .i64 x1, .int .i64 x2] 49 (0, 0)) * F)) w)
    (h : ∀ v' w', Sat (RowP v' (l.take i ++ (x1, x2) :: l.drop i) * (pts vb (.cells #[.int .i64 x1, .int .i64 x2] 49 (0, 0)) * F)) w' → Io w w' → R (.returned v') w') :
    Calls Tryz.prog 100 #[.slice (some ⟨g, 0, none⟩) l.length c, .int .i64 i, .slice (some ⟨vb, 0, none⟩) 1 cc] w R := by
  have hne := row_ne H
  have hcap := (row_cap H).2
  obtain ⟨i0, hinf, hz0, hz1, hz2⟩ := info_parts Tryz.info49
  have hov : ∀ lb cb, (callFunc 119 #[.slice (some ⟨vb, 0, none⟩) 1 cc, .slice (some ⟨g, (i + 1) * 2, none⟩) lb cb]).run Tryz.prog w = .ok (.value (.bool false)) w := fun lb cb => by
    rw [run_callFunc_extern Tryz.func119 (by kernel_rfl) (by kernel_rfl) (by kernel_rfl) (e := Extern.SlicesOverlaps.overlaps #[22, 22] #[4]) (by kernel_rfl),
      Lib.run_overlaps_apart w 22 4 49 Tryz.underlying22 2 Tryz.sizeOf49 ⟨vb, 0, none⟩ ⟨g, (i + 1) * 2, none⟩ 1 cc lb cb hne _ _ _ _ (box_shape? H.right) (row_shape? H) (by omega) (Sat.free H.right.left.at 0) (Sat.free H.right.left.at 2)]
    rfl
  obtain ⟨ys, HS, hys⟩ := row_stretch H hroom (by omega)
  have hyl : ys.length = (l.length + 1) * 2 := (sat_row.1 HS).1
  have hyt : ys.take (i * 2) = pv (l.take i) := by
    rw [← pv_take, ← hys, List.take_take, Nat.min_eq_left (by omega)]
  obtain ⟨hcells, _⟩ := ins_cells (x1, x2) (by omega) hyl hyt
  have hdl : (pv (l.drop i)).length = (l.length - i) * 2 := by rw [pv_length, List.length_drop]
  have src1 : ∀ j u, (pv (l.drop i))[j]? = some u → w.drew.cell? ((⟨g, i * 2, none⟩ : Addr).add j) = some u := fun j u hj => by
    have e : pv l = pv (l.take i) ++ pv (l.drop i) := by rw [← pv_append, List.take_append_drop]
    have hp : (pv (l.take i)).length = i * 2 := by rw [pv_length, List.length_take, Nat.min_eq_left (by omega)]
    have := row_read H.drew (i * 2 + j) u (by rw [e, List.getElem?_append_right (by omega), hp, Nat.add_sub_cancel_left]; exact hj)
    rw [Addr.add_lit]
    exact this
  have S1 := Lib.hid src1
  have HC := Lib.hid hcells
  have HL := Lib.hid hdl
  have one1 := Lib.hid (pv_one (l.drop i))
  have HH := Lib.hid h
  have HYL := Lib.hid hyl
  have q2 : ¬ ((i : Int) = (l.length : Int)) := by omega
  have q3 : ¬ ((c : Int) < (l.length : Int) + 1) := by omega
  have q4 : (i : Int) ≤ (l.length : Int) + 1 := by omega
  have q4' : (i : Int) ≤ (l.length : Int) := by omega
  have q5 : ¬ (c = i + 1) := by omega
  have q6 : ¬ (c = i) := by omega
  have q7 : (i : Int) + 1 ≤ (l.length : Int) + 1 := by omega
  have q8 : (l.length : Int) + 1 ≤ (c : Int) := by omega
  have q9 : (l.length : Int) ≤ 100000 := by omega
  have q10 : (c : Int) ≤ 9223372036854775807 := by unfold maxLen at hcap; omega
  have hn := Lib.hid hi
  have HSd := HS.drew
  clear h H HS hys hyl hyt hcells src1 hdl hi hl hroom
  go_enter Tryz.func100, Tryz.ntmps100
  go_wp2_with (simp only [hov])
  have mixed : Tryz.prog.follows Departure.mixedOrders = true := by kernel_rfl
  have hw1 : IntKind.i64.wrap ((i : Int) + 1) = (i : Int) + 1 := by rw [IntKind.wrap_i64]; omega
  have hw2 : (0 : Int) ≤ (i : Int) + 1 := by omega
  have htn : ((i : Int) + 1).toNat = i + 1 := by omega
  have i1 : (i + 1) * 2 + (pv (l.drop i)).length ≤ (l.length + 1) * 2 := by rw [HL.out]; have := hn.out; omega
  go_region_law_o (refine step_copy_row rfl (.tmp 73) (.tmp 76) 22 22 rfl Tryz.underlying22 hinf hz1 HSd (i + 1) (l.length + 1 - (i + 1)) (c - (i + 1)) ⟨g, i * 2, none⟩ (l.length + 1 - i) (c - i) (pv (l.drop i)) (by simp [Act.eval, Act.put]) (by simp [Act.eval, Act.put]) (by rw [HL.out]; simp only [Nat.min_def]; split <;> omega) i1 S1.out one1.out ?_; intro v3 w3 H3 I3)
  have b0 := H3.right
  have n2 : ([.int .i64 x1, .int .i64 x2] : List Value).length = Nat.min 1 (l.length + 1 - i) * 2 := by
    have := hn.out
    simp only [Nat.min_def, List.length_cons, List.length_nil]
    split <;> omega
  have i2 : i * 2 + ([.int .i64 x1, .int .i64 x2] : List Value).length ≤ (l.length + 1) * 2 := by have := hn.out; simp only [List.length_cons, List.length_nil]; omega
  have src2 : ∀ j u, ([.int .i64 x1, .int .i64 x2] : List Value)[j]? = some u → w3.cell? ((⟨vb, 0, none⟩ : Addr).add j) = some u := fun j u hj => by rw [Addr.add_lit, Nat.zero_add, Sat.read b0.left.at j, List.getElem?_toArray]; exact hj
  have one2 : ∀ u ∈ ([.int .i64 x1, .int .i64 x2] : List Value), u.oneCell' = true := by intro u hu; simp at hu; rcases hu with rfl | rfl <;> rfl
  have N2 := Lib.hid n2
  have I2 := Lib.hid i2
  have S2 := Lib.hid src2
  have O2 := Lib.hid one2
  clear n2 i2 src2 one2
  obtain ⟨w4, hr4, H4, I4⟩ := run_copy_into (P := Tryz.prog) (dT := 22) (sT := 22) (ty := 3) Tryz.underlying22 hinf hz1 H3 i (l.length + 1 - i) (c - i) ⟨vb, 0, none⟩ 1 cc [.int .i64 x1, .int .i64 x2] N2.out I2.out S2.out O2.out
  have HR := Lib.hid H4
  clear H4
  go_wp2_with fail
  have H4 := HR.out
  refine HH.out (.slice (some ⟨g, 0, none⟩) (l.length + 1) c) _ ?_ (((Io.refl w).drew.trans I3).trans I4)
  rw [HC.out] at H4
  refine H4.of_eq ?_
  unfold RowP
  rw [show (l.take i ++ (x1, x2) :: l.drop i).length = l.length + 1 from by have := hn.out; simp; omega]
set_option maxRecDepth 100000 in
set_option maxHeartbeats 4000000 in
theorem insert_end {vb cc : Nat} {x1 x2 : Int} (hl : l.length ≤ 100000) (H : Sat (RowP v l * (pts vb (.cells #[.int .i64 x1, .int .i64 x2] 49 (0, 0)) * F)) w)
    (h : ∀ v' w', Sat (RowP v' (l ++ [(x1, x2)]) * (pts vb (.cells #[.int .i64 x1, .int .i64 x2] 49 (0, 0)) * F)) w' → Io w w' → R (.returned v') w') :
    Calls Tryz.prog 100 #[v, .int .i64 l.length, .slice (some ⟨vb, 0, none⟩) 1 cc] w R := by
  obtain ⟨a, c, rfl, hm⟩ := readsP_len (readsP_row H (by omega))
  have q9 : (l.length : Int) ≤ 100000 := by omega
  have hu : Hid (ReadsP (pts vb (.cells #[.int .i64 x1, .int .i64 x2] 49 (0, 0)) * F) (.slice (some ⟨vb, 0, none⟩) 1 cc) [(x1, x2)]) := Lib.hid ⟨_, cc, rfl, by simp, .inr ⟨vb, 0, rfl, fun w' hw' j u hu => by rw [Nat.zero_add, Sat.read hw'.left.at j, List.getElem?_toArray]; exact hu⟩⟩
  have HH := Lib.hid h
  have HR := Lib.hid H
  have HL := Lib.hid hl
  clear h H hl
  go_enter Tryz.func100, Tryz.ntmps100
  go_wp2_with (at_builtin; refine wpList_append_pairs rfl (.tmp 23) (.tmp 24) rfl rfl HR.out (by have := HL.out; omega) (by simp) rfl hu.out ?_; intro v3 w3 H3 I3)
  all_goals exact HH.out _ _ H3 I3
set_option maxRecDepth 100000 in
set_option maxHeartbeats 4000000 in
theorem insert_grow {g c vb cc : Nat} {x1 x2 : Int} (i : Nat) (hi : i < l.length) (hl : l.length ≤ 100000) (hroom : ¬ l.length + 1 ≤ c) (H : Sat (RowP (.slice (some ⟨g, 0, none⟩) l.length c) l * (pts vb (.cells #[.int .i64 x1, .int .i64 x2] 49 (0, 0)) * F)) w)
    (h : ∀ v' w', Sat (RowP v' (l.take i ++ (x1, x2) :: l.drop i) * (pts vb (.cells #[.int .i64 x1, .int .i64 x2] 49 (0, 0)) * F)) w' → Io w w' → R (.returned v') w') :
    Calls Tryz.prog 100 #[.slice (some ⟨g, 0, none⟩) l.length c, .int .i64 i, .slice (some ⟨vb, 0, none⟩) 1 cc] w R := by
  have hcap := (row_cap H).1
  obtain ⟨i0, hinf, hz0, hz1, hz2⟩ := info_parts Tryz.info49
  have hcat : pv l = pv (l.take i) ++ pv (l.drop i) := by rw [← pv_append, List.take_append_drop]
  have hp : (pv (l.take i)).length = i * 2 := by rw [pv_length, List.length_take, Nat.min_eq_left (by omega)]
  have hdl : (pv (l.drop i)).length = (l.length - i) * 2 := by rw [pv_length, List.length_drop]
  have olds : ∀ j u, (pv (l.take i))[j]? = some u → w.cell? ((⟨g, 0, none⟩ : Addr).add j) = some u := fun j u hj => by
    have hj' : j < (pv (l.take i)).length := (List.getElem?_eq_some_iff.1 hj).1
    rw [Addr.add_lit, Nat.zero_add]
    exact row_read H j u (by rw [hcat, List.getElem?_append_left hj']; exact hj)
  have e1 : i + (l.length + 1 - i) = l.length + 1 := by omega
  obtain ⟨g', c', w3, hr3, H3, I3⟩ := run_append_zeros_sl (P := Tryz.prog) (t := 22) (tn := 3) (ty := 22) (kn := .i64) (n := i) (c := c) Tryz.underlying22 Tryz.underlying3 hinf hz0 hz1 hz2 rfl (by omega) H ⟨g, 0, none⟩ (pv (l.take i)) hp olds (l.length + 1 - i) (by omega) (by omega) (by unfold maxLen; omega) (by omega) .i64
  rw [e1] at hr3 H3
  have hsub : (l.length : Int) + 1 - (i : Int) = ((l.length + 1 - i : Nat) : Int) := by omega
  rw [← hsub] at hr3
  generalize hz : (Builtin.zeroCells (Value.agg #[.int .i64 0, .int .i64 0]).cells (l.length + 1 - i)).toList = zs at H3
  have hzl : zs.length = (l.length + 1 - i) * 2 := by rw [← hz, Array.length_toList, size_zeroCells]; rfl
  have hxl : (pv (l.take i) ++ zs).length = (l.length + 1) * 2 := by rw [List.length_append, hp, hzl]; omega
  obtain ⟨_, hcells⟩ := ins_cells (x1, x2) (by omega) hxl (List.take_left' hp)
  have b0 := H3.right.right
  have src2 : ∀ j u, ([.int .i64 x1, .int .i64 x2] : List Value)[j]? = some u → w3.cell? ((⟨vb, 0, none⟩ : Addr).add j) = some u := fun j u hj => by rw [Addr.add_lit, Nat.zero_add, Sat.read b0.left.at j, List.getElem?_toArray]; exact hj
  obtain ⟨w4, hr4, H4, I4⟩ := run_copy_into (P := Tryz.prog) (dT := 22) (sT := 22) (ty := 3) Tryz.underlying22 hinf hz1 H3 i (l.length + 1 - i) (c' - i) ⟨vb, 0, none⟩ 1 cc [.int .i64 x1, .int .i64 x2] (by simp only [Nat.min_def, List.length_cons, List.length_nil]; split <;> omega) (by simp only [List.length_cons, List.length_nil]; omega) src2 (by intro u hu; simp at hu; rcases hu with rfl | rfl <;> rfl)
  have HO := H4.right.drew
  have src5 : ∀ j u, (pv (l.drop i))[j]? = some u → w4.drew.cell? ((⟨g, i * 2, none⟩ : Addr).add j) = some u := fun j u hj => by
    have := row_read HO (i * 2 + j) u (by rw [hcat, List.getElem?_append_right (by omega), hp, Nat.add_sub_cancel_left]; exact hj)
    rw [Addr.add_lit]
    exact this
  have hcap' := row_cap H3
  have S1 := Lib.hid src5
  have HC := Lib.hid hcells
  have HL := Lib.hid hdl
  have one1 := Lib.hid (pv_one (l.drop i))
  have HH := Lib.hid h
  have q2 : ¬ ((i : Int) = (l.length : Int)) := by omega
  have q3 : (c : Int) < (l.length : Int) + 1 := by omega
  have q4 : (i : Int) ≤ (l.length : Int) + 1 := by omega
  have q4' : (i : Int) ≤ (l.length : Int) := by omega
  have q5 : ¬ (c' = i + 1) := by omega
  have q6 : ¬ (c = i) := by omega
  have q6' : ¬ (c' = i) := by omega
  have q7 : (i : Int) + 1 ≤ (l.length : Int) + 1 := by omega
  have q7' : (i : Int) ≤ (c : Int) := by omega
  have q8 : (l.length : Int) + 1 ≤ (c' : Int) := by omega
  have q9 : (l.length : Int) ≤ 100000 := by omega
  have q10 : (c' : Int) ≤ 9223372036854775807 := by unfold maxLen at hcap'; omega
  have hn := Lib.hid hi
  have HR := Lib.hid H4
  have mixed : Tryz.prog.follows Departure.mixedOrders = true := by kernel_rfl
  have hw1 : IntKind.i64.wrap ((i : Int) + 1) = (i : Int) + 1 := by rw [IntKind.wrap_i64]; omega
  have hw2 : (0 : Int) ≤ (i : Int) + 1 := by omega
  have htn : ((i : Int) + 1).toNat = i + 1 := by omega
  have i1 : (i + 1) * 2 + (pv (l.drop i)).length ≤ (l.length + 1) * 2 := by rw [hdl]; omega
  clear h H H3 H4 HO b0 src2 src5 hcells hdl hi hl hroom olds hcat hp hxl hzl hz hsub e1 hcap
  go_enter Tryz.func100, Tryz.ntmps100
  go_wp2_with (at_builtin; refine Lib.wpList_append_run _ rfl _ _ _ _ rfl _ _ rfl rfl _ _ hr3 ?_)
  go_region_law_o (refine step_copy_row rfl (.tmp 50) (.tmp 53) 22 22 rfl Tryz.underlying22 hinf hz1 HR.out.drew (i + 1) (l.length + 1 - (i + 1)) (c' - (i + 1)) ⟨g, i * 2, none⟩ (l.length - i) (c - i) (pv (l.drop i)) (by simp [Act.eval, Act.put]) (by simp [Act.eval, Act.put]) (by rw [HL.out]; simp only [Nat.min_def]; split <;> omega) i1 S1.out one1.out ?_; intro v5 w5 H5 I5)
  go_wp2_with fail
  refine HH.out (.slice (some ⟨g', 0, none⟩) (l.length + 1) c') _ ?_ (((I3.trans I4).drew).trans I5)
  rw [HC.out] at H5
  refine (H5.mid).of_eq ?_
  unfold RowP
  rw [show (l.take i ++ (x1, x2) :: l.drop i).length = l.length + 1 from by have := hn.out; simp; omega]
theorem insert_any {vb cc : Nat} {x1 x2 : Int} (i : Nat) (hi : i ≤ l.length) (hl : l.length ≤ 100000) (H : Sat (RowP v l * (pts vb (.cells #[.int .i64 x1, .int .i64 x2] 49 (0, 0)) * F)) w)
    (h : ∀ v' w', Sat (RowP v' (l.take i ++ (x1, x2) :: l.drop i) * (pts vb (.cells #[.int .i64 x1, .int .i64 x2] 49 (0, 0)) * F)) w' → Io w w' → R (.returned v') w') :
    Calls Tryz.prog 100 #[v, .int .i64 i, .slice (some ⟨vb, 0, none⟩) 1 cc] w R := by
  by_cases he : i = l.length
  · subst he
    exact insert_end hl H (by rw [List.take_length, List.drop_length] at h; exact h)
  · obtain ⟨g, c, rfl⟩ := row_shape H (by omega)
    by_cases hroom : l.length + 1 ≤ c
    · exact insert_room i (by omega) hl hroom H h
    · exact insert_grow i (by omega) hl hroom H h
set_option maxRecDepth 100000 in
set_option maxHeartbeats 4000000 in
theorem delete_any (i : Nat) (hi : i < l.length) (hl : l.length ≤ 100000) (H : Sat (RowP v l * F) w)
    (h : ∀ v' w', Sat (RowP v' (l.take i ++ l.drop (i + 1)) * F) w' → Io w w' → R (.returned v') w') :
    Calls Tryz.prog 101 #[v, .int .i64 i, .int .i64 ((i : Int) + 1)] w R := by
  obtain ⟨g, c, rfl⟩ := row_shape H (by omega)
  obtain ⟨hcap, hcm⟩ := row_cap H
  obtain ⟨i0, hinf, hz0, hz1, hz2⟩ := info_parts Tryz.info49
  have hcat : pv l = pv (l.take (i + 1)) ++ pv (l.drop (i + 1)) := by rw [← pv_append, List.take_append_drop]
  have hp : (pv (l.take (i + 1))).length = (i + 1) * 2 := by rw [pv_length, List.length_take, Nat.min_eq_left (by omega)]
  have hdl : (pv (l.drop (i + 1))).length = (l.length - (i + 1)) * 2 := by rw [pv_length, List.length_drop]
  obtain ⟨A, hA, hsrc⟩ : ∃ A : Addr, (if c = i + 1 then (some ⟨g, 0, none⟩ : Option Addr) else some ⟨g, (i + 1) * 2, none⟩) = some A ∧ ∀ j u, (pv (l.drop (i + 1)))[j]? = some u → w.drew.cell? (A.add j) = some u := by
    by_cases hc : c = i + 1
    · refine ⟨⟨g, 0, none⟩, by simp [hc], fun j u hj => ?_⟩
      have hj' := (List.getElem?_eq_some_iff.1 hj).1
      rw [hdl] at hj'
      omega
    · refine ⟨⟨g, (i + 1) * 2, none⟩, by simp [hc], fun j u hj => ?_⟩
      rw [Addr.add_lit]
      exact row_read H.drew ((i + 1) * 2 + j) u (by rw [hcat, List.getElem?_append_right (by omega), hp, Nat.add_sub_cancel_left]; exact hj)
  have HS := row_shrink H.drew (k := i) (by omega)
  rw [pv_take] at HS
  obtain ⟨w3, hr3, H3, I3⟩ := run_append_room_sl (P := Tryz.prog) (t := 22) (ty := 22) Tryz.underlying22 hinf hz1 HS A (l.length - (i + 1)) (c - (i + 1)) (pv (l.drop (i + 1))) hdl hsrc (pv_one _) (by omega)
  rw [← pv_append] at H3
  obtain ⟨n, hn⟩ : ∃ n, l.length = n + 1 := ⟨l.length - 1, by omega⟩
  have e1 : i + (l.length - (i + 1)) = n := by omega
  rw [e1] at hr3 H3
  obtain ⟨w4, hr4, H4, I4⟩ := run_clear_beyond (P := Tryz.prog) (t := 22) (ty := 0) Tryz.underlying22 Tryz.zeroValue49 rfl (by intro u hu; simp [Value.cells] at hu; subst hu; rfl) H3 n 1 (Nat.le_refl _) (by omega) (some ⟨g, n * 2, none⟩) (fun _ => rfl) (c - n)
  have HH := Lib.hid h
  have HR := Lib.hid H4
  have hlen : Hid ((l.take i ++ l.drop (i + 1)).length = n) := Lib.hid (by simp; omega)
  rw [hn] at hr3 hi hl hcap ⊢
  have q1 : ¬ ((i : Int) = (i : Int) + 1) := by omega
  have q2 : (i : Int) + 1 ≤ (n : Int) + 1 := by omega
  have q3 : (n : Int) + 1 ≤ (c : Int) := by omega
  have q4 : (n : Int) ≤ (n : Int) + 1 := by omega
  have q5 : ¬ (c = n) := by omega
  have q6 : (i : Int) ≤ (c : Int) := by omega
  have q7 : (i : Int) ≤ (i : Int) + 1 := by omega
  have q10 : (c : Int) ≤ 9223372036854775807 := by unfold maxLen at hcm; omega
  have q11 : (n : Int) ≤ 100000 := by omega
  have htn : ((i : Int) + 1).toNat = i + 1 := by omega
  have htn2 : ((n : Int) + 1).toNat = n + 1 := by omega
  have hw2 : (0 : Int) ≤ (i : Int) + 1 := by omega
  have hw3 : n + 1 - n = 1 := by omega
  have mixed : Tryz.prog.follows Departure.mixedOrders = true := by kernel_rfl
  clear h H H3 H4 hsrc hcat hp hdl hn hi hl hcap HS e1
  go_enter Tryz.func101, Tryz.ntmps101
  go_wp2_with fail
  go_region_law_o (refine step_append_run2 rfl (.tmp 22) (.tmp 25) 22 22 rfl (by simp [Act.eval, Act.put]) (by simp [Act.eval, Act.put]) hr3 ?_)
  go_wp2_with (at_builtin; refine wpList_clear_run rfl (.tmp 31) 22 rfl rfl hr4 ?_)
  refine HH.out (.slice (some ⟨g, 0, none⟩) n c) _ ?_ (((Io.refl w).drew.trans I3).trans I4)
  refine HR.out.of_eq ?_
  unfold RowP
  rw [hlen.out]
  rfl
end
end Go.Proofs.YtabpgejjnphfcaaGreat
