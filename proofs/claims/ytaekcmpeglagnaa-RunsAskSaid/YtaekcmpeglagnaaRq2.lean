/-
  Runs: List, by its walk. It proves no statement by itself.
-/
import Derived.Test.YtaekcmpeglagnaaRq1
import Derived.RangeFuncBox
namespace Go.Proofs.Ytaekcmpeglagnaa
open Go.RowKit Go.Lib Go.Shelf
set_option linter.unusedSimpArgs false
set_option linter.unusedVariables false
attribute [local go_sem] Oper.semAt_some

theorem Try.infoI : (Try.prog.info? 3).map (fun i => (i.zero, i.size, i.bytes)) = some (some (.int .i64 0), 1, 8) := by kernel_rfl
theorem owned_int {W : World} {base : Nat} {v : Value} {n : Nat} {xs : List Value} (h : W.ownsRow base 3 1 v n xs) : ∀ r, v.ownBlock = some r → ∃ c t fr, W.heap[r]? = some (.cells c t fr) ∧ t ≠ 28 := by
  intro r hr
  obtain ⟨_, ⟨rfl, _⟩ | ⟨g, cap, cur, rfl, _, h2, _⟩⟩ := h
  · cases hr
  · cases hr
    exact ⟨_, _, _, h2, by decide⟩
theorem ownsRow_base {W : World} {b : Nat} {e : TypeId} {size n : Nat} {v : Value} {xs : List Value} (h : W.ownsRow (b + 1) e size v n xs) : W.ownsRow b e size v n xs := by
  obtain ⟨h1, h2 | ⟨g, cap, cur, h3, h4, h5⟩⟩ := h
  · exact ⟨h1, .inl h2⟩
  · exact ⟨h1, .inr ⟨g, cap, cur, h3, by omega, h5⟩⟩
set_option maxRecDepth 100000 in
set_option maxHeartbeats 4000000 in
theorem list_calls {F : Asn} {w : World} {v : Value} {rl : List Rn} (hv : ReadsR F v rl) (hl : rl.length ≤ 10000) (most : Int) (H : Sat F w) :
    Calls Try.prog 16 #[v, .int .i64 most] w fun e W' => ∃ v', e = .returned v' ∧ W'.ownsRow w.heap.size 3 1 v' ((Rs.elems (Rs.norm rl)).take most.toNat).length (((Rs.elems (Rs.norm rl)).take most.toNat).map (Value.int .i64)) ∧ Below w.heap.size w W' := by
  have HC := Rs.canon_norm rl
  have hN : (Rs.elems (Rs.norm rl)).length ≤ 4294967296 := by
    have h1 := Rs.elems_len (Rs.norm rl) HC
    have h2 := Rs.len_bound HC (Rs.norm rl).length
    rw [List.take_length] at h2
    simp only [Rs.most] at h2
    omega
  obtain ⟨a, c, rfl, hm⟩ := readsR_len hv
  obtain ⟨i0, hi, hz0, hz1, hz2⟩ := info_parts Try.infoI
  refine (callsIn_wide (n := 5)).1 ?_
  refine callsIn_of_wp_marks Try.func16 rfl trivial ?_ rfl
  simp only [Try.ntmps16, List.size_toArray, List.length_cons, List.length_nil, Nat.reduceAdd, Nat.reduceSub, Array.replicate_succ, Array.replicate_zero, List.push_toArray, List.append_toArray, List.nil_append, List.cons_append]
  gi_wp2_with (refine ⟨trivial, ?_⟩; gi_at_call 17; refine (callsIn_wide.2 (all_any _ a rl.length c rfl _)).mono ?_; rintro e w' ⟨rfl, rfl⟩)
  have c0 := Boxed.new w 3 (.int .i64 most)
  have c1 := Boxed.new (w.alloc (.cells #[.int .i64 most] 3)) 31 (.slice none 0 0)
  have c2 := Boxed.new ((w.alloc (.cells #[.int .i64 most] 3)).alloc (.cells #[.slice none 0 0] 31)) 22 (.slice a rl.length c)
  simp only [World.size_alloc] at c1 c2
  have hB0 : Below w.heap.size w (((w.alloc (.cells #[.int .i64 most] 3)).alloc (.cells #[.slice none 0 0] 31)).alloc (.cells #[.slice a rl.length c] 22)) := (((Below.refl _ w).alloc (Nat.le_refl _) _).alloc (by simp) _).alloc (by simp; omega) _
  have HS := (((H.alloc (.cells #[.int .i64 most] 3)).alloc (.cells #[.slice none 0 0] 31)).alloc (.cells #[.slice a rl.length c] 22))
  refine wpIn_rangeFunc_ownG rfl (by omega) (gf := 29) (lb := #[.pointer (some ⟨w.heap.size + 1 + 1, 0, none⟩)]) rfl trivial (enters_of Try.func29 (by kernel_rfl) rfl)
    (all_stops (5 - 1) (by omega) (w.heap.size + 1 + 1) hv hl _ (by simp) HS c2.cell) KeepsRuns.trans KeepsRuns.put (Below.refl _ _) (fun _ => rfl)
    (fun pre W => (∃ v, Boxed W (w.heap.size + 1) 31 v ∧ W.ownsRow (w.heap.size + 1) 3 1 v pre.length (pre.map (Value.int .i64)) ∧ pre.length ≤ most.toNat) ∧ (Boxed W w.heap.size 3 (.int .i64 most) ∧ Below w.heap.size w W))
    (fun cd pre W => (∃ v, Boxed W (w.heap.size + 1) 31 v ∧ W.ownsRow (w.heap.size + 1) 3 1 v pre.dropLast.length (pre.dropLast.map (Value.int .i64)) ∧ (cd = .exit 0 ∧ pre ≠ [] ∧ pre.dropLast.length = most.toNat)) ∧ Below w.heap.size w W)
    (OwnFrom.and (Own.from (holdsRow_own (w.heap.size + 1) (w.heap.size + 1) 31 3 1 (fun pre : List Int => pre.length) (fun pre : List Int => pre.map (Value.int .i64)) (fun (pre : List Int) v => pre.length ≤ most.toNat)) _) (OwnFrom.and (fun s A B row hs hg hr => boxed_keep hs hg hr) (ownFrom_below (Nat.le_refl _) (by simp; omega))))
    (fun cd => OwnFrom.and (Own.from (holdsRow_own (w.heap.size + 1) (w.heap.size + 1) 31 3 1 (fun pre : List Int => pre.dropLast.length) (fun pre : List Int => pre.dropLast.map (Value.int .i64)) (fun (pre : List Int) v => cd = .exit 0 ∧ pre ≠ [] ∧ pre.dropLast.length = most.toNat)) _) (ownFrom_below (Nat.le_refl _) (by simp; omega)))
    ⟨⟨_, c1.alloc _, World.ownsRow_nil _ _ _ _, by simp⟩, (c0.alloc _).alloc _, hB0⟩
    (fun x => { tmps := #[.slice a rl.length c, .int .i64 most, undef, .pointer (some ⟨w.heap.size, 0, none⟩), .slice none 0 0, .pointer (some ⟨w.heap.size + 1, 0, none⟩), .int .i64 x, .slice a rl.length c, .func (.func 29) #[] #[.pointer (some ⟨w.heap.size + 1 + 1, 0, none⟩)], .int .i64 x, undef, undef, undef, undef, undef, undef, undef, undef, undef], defers := [] }) ?assign ?body ?done ?stop
  case assign =>
    intro l x W K hK
    gi_wp2
    exact hK
  case body =>
    rintro l pre x W ⟨⟨v, bv, hrow, hple⟩, bm, hB⟩ hlt
    have hc := bv.cell
    have hf := bv.frozen
    have hcm := bm.cell
    obtain ⟨va, vc, rfl⟩ : ∃ va vc, v = .slice va pre.length vc := by
      obtain ⟨_, ⟨rfl, h0⟩ | ⟨g, cap, cur, rfl, _⟩⟩ := hrow
      · exact ⟨none, 0, by rw [h0]⟩
      · exact ⟨_, _, rfl⟩
    by_cases hge : most ≤ (pre.length : Int)
    · gi_wp2
      exact ⟨(KeepsOthers.refl _).from _, ⟨_, bv, by simpa using hrow, rfl, by simp, by simp; omega⟩, hB⟩
    · gi_wp2_with (gi_at_builtin; refine wpListIn_append_own _ rfl _ _ 31 rfl (w.heap.size + 1) 3 i0 (.int .i64 0) 1 8 Try.underlying31 hi hz0 hz1 hz2 rfl (by decide) _ _ _ rfl (hrow.alloc _) ⟨W.heap.size, 0, none⟩ 1 1 [.int .i64 x] rfl rfl (cell_one_new _ _ _) (by simp [Value.oneCell']) (by unfold maxLen; omega) (by omega) (by have := bm.lt; simp; omega) ?_; intro v' w1 hown' hgrow _; obtain ⟨g', cap', rfl⟩ := ownsRow_succ hown'; obtain ⟨hv1, hv2, hr2, hk2, hb2⟩ := bv.appended (by decide) hrow bm.lt (Nat.le_refl _) hown' hgrow; have hc1 := hv1.cell; have hf1 := hv1.frozen)
      refine ⟨hk2.from _, ?_, ⟨_, hv2, by simpa using hr2, by simp; omega⟩, (hb2.block _ (by omega)).trans bm, hB.trans (hb2.mono (by omega))⟩
      exact ((KeepsRuns.alloc W _).trans (KeepsRuns.of_grown hgrow (owned_int (hrow.alloc _)))).trans (KeepsRuns.of_grown (grownBy_setCell' w1 (w.heap.size + 1) _) (fun r e => by cases e; exact ⟨_, _, _, hv1, by decide⟩))
  case done =>
    rintro D ys W hD rfl ⟨⟨v, bv, hrow, hple⟩, bm, hB⟩ hK
    have hc := bv.cell
    gi_wp2
    refine ⟨by simp, .inl ⟨_, _, rfl, run_takeDeferred hK, ?_⟩⟩
    refine ⟨_, results_tmp rfl _ _ _, v, rfl, ?_, hB.trans (belowK_b (w := w) (Nat.le_refl _) W D _ _ (by simp at hD; omega) hK rfl rfl)⟩
    rw [List.take_of_length_le hple]
    exact ownsRow_base (ownsRow_putObj hrow _ hK rfl)
  case stop =>
    rintro D cd pre W hD hpre ⟨⟨v, bv, hrow, rfl, hne, hlen⟩, hB⟩ hK
    have hc := bv.cell
    gi_wp2
    have hpp : pre.dropLast <+: Rs.elems (Rs.norm rl) := (List.dropLast_prefix pre).trans hpre
    have he : pre.dropLast = (Rs.elems (Rs.norm rl)).take most.toNat := by rw [← hlen]; exact List.prefix_iff_eq_take.1 hpp
    refine ⟨by simp, .inl ⟨_, _, rfl, run_takeDeferred hK, ?_⟩⟩
    refine ⟨_, results_tmp rfl _ _ _, v, rfl, ?_, hB.trans (belowK_b (w := w) (Nat.le_refl _) W D _ _ (by simp at hD; omega) hK rfl rfl)⟩
    rw [← he]
    exact ownsRow_base (ownsRow_putObj hrow _ hK rfl)
/-- A whole number's cell. -/
def encI (x : Int) : List Value := [.int .i64 x]
theorem encI_ok : Enc encI 1 := ⟨fun _ => rfl, fun x u hu => by simp [encI] at hu; subst hu; rfl⟩
theorem cellsI (l : List Int) : cellsOf encI l = l.map (Value.int .i64) := by
  induction l with
  | nil => rfl
  | cons x l ih => simp only [cellsOf, List.flatMap_cons, List.map_cons] at ih ⊢; rw [ih]; rfl
abbrev RowI (v : Value) (l : List Int) : Asn := RowOf 3 1 encI v l
abbrev ReadsI (F : Asn) (v : Value) (l : List Int) : Prop := Reads encI F v l
theorem owns_sat {F : Asn} {w w' : World} {v' : Value} (H : Sat F w) (n : Nat) (xs : List Value) (e : TypeId) (size : Nat) (h : w'.ownsRow w.heap.size e size v' n xs) (b : Below w.heap.size w w') : Sat (Row e size v' n xs * F) w' := by
  have H' : Sat F w' := H.keep fun k hk => b.block k hk
  obtain ⟨hl, hr⟩ := h
  rcases hr with ⟨rfl, rfl⟩ | ⟨g, cap, cur, e1, e2, e3, e4, e5, e6, e7⟩
  · exact sat_row.2 ⟨hl, .inl ⟨rfl, rfl, H'⟩⟩
  · exact sat_row.2 ⟨hl, .inr ⟨g, cap, cur, e1, e4, e5, e6, e7, H.fresh e2 e3 fun k hk => b.block k hk⟩⟩
theorem list_any {F : Asn} {w : World} {R : Ending → World → Prop} {v : Value} {rl : List Rn} (hv : ReadsR F v rl) (hl : rl.length ≤ 10000) (most : Int) {o : List Int} (ho : Hid (o = (Rs.elems (Rs.norm rl)).take most.toNat)) (H : Sat F w) (h : ∀ v' w', Sat (RowI v' o * F) w' → Io w w' → R (.returned v') w') :
    Calls Try.prog 16 #[v, .int .i64 most] w R := by
  refine (list_calls hv hl most H).mono ?_
  rintro e w' ⟨v', rfl, hown, hb⟩
  refine h v' w' ?_ ⟨hb.os, hb.tape, hb.output, hb.size⟩
  rw [← ho.out, ← cellsI] at hown
  exact owns_sat H _ _ _ _ hown hb
end Go.Proofs.Ytaekcmpeglagnaa
