/-
  Runs: First, by its walk. It proves no statement by itself.
-/
import Derived.Test.YtaekcmpeglagnaaRq
namespace Go.Proofs.Ytaekcmpeglagnaa
open Go.RowKit Go.Lib Go.Shelf
set_option linter.unusedSimpArgs false
set_option linter.unusedVariables false
attribute [local go_sem] Oper.semAt_some

/-- The least number of a list in the one way. -/
def firstOf : List Rn → Int × Bool
  | [] => (0, false)
  | r :: _ => (r.1, true)
set_option maxRecDepth 100000 in
set_option maxHeartbeats 4000000 in
theorem first_calls {F : Asn} {w : World} {v : Value} {rl : List Rn} (hv : ReadsR F v rl) (hl : rl.length ≤ 10000) (H : Sat F w) :
    Calls Try.prog 11 #[v] w fun e W' => e = .returned (.tuple #[.int .i64 (firstOf (Rs.norm rl)).1, .bool (firstOf (Rs.norm rl)).2]) ∧ Below w.heap.size w W' := by
  have HC := Rs.canon_norm rl
  obtain ⟨a, c, rfl, hm⟩ := readsR_len hv
  refine (callsIn_wide (n := 5)).1 ?_
  refine callsIn_of_wp_marks Try.func11 rfl trivial ?_ rfl
  simp only [Try.ntmps11, List.size_toArray, List.length_cons, List.length_nil, Nat.reduceAdd, Nat.reduceSub, Array.replicate_succ, Array.replicate_zero, List.push_toArray, List.append_toArray, List.nil_append, List.cons_append]
  gi_wp2_with (refine ⟨trivial, ?_⟩; gi_at_call 17; refine (callsIn_wide.2 (all_any _ a rl.length c rfl _)).mono ?_; rintro e w' ⟨rfl, rfl⟩)
  have c0 := Boxed.new w 3 (.int .i64 0)
  have c1 := Boxed.new (w.alloc (.cells #[.int .i64 0] 3)) 4 (.bool false)
  have c2 := Boxed.new ((w.alloc (.cells #[.int .i64 0] 3)).alloc (.cells #[.bool false] 4)) 22 (.slice a rl.length c)
  simp only [World.size_alloc] at c1 c2
  have hB0 : Below w.heap.size w (((w.alloc (.cells #[.int .i64 0] 3)).alloc (.cells #[.bool false] 4)).alloc (.cells #[.slice a rl.length c] 22)) := (((Below.refl _ w).alloc (Nat.le_refl _) _).alloc (by simp) _).alloc (by simp; omega) _
  have HS := (((H.alloc (.cells #[.int .i64 0] 3)).alloc (.cells #[.bool false] 4)).alloc (.cells #[.slice a rl.length c] 22))
  refine wpIn_rangeFunc_ownG rfl (by omega) (gf := 29) (lb := #[.pointer (some ⟨w.heap.size + 1 + 1, 0, none⟩)]) rfl trivial (enters_of Try.func29 (by kernel_rfl) rfl)
    (all_stops (5 - 1) (by omega) (w.heap.size + 1 + 1) hv hl _ (by simp) HS c2.cell) KeepsRuns.trans KeepsRuns.put (Below.refl _ _) (fun _ => rfl)
    (fun pre W => (pre = [] ∧ Boxed W w.heap.size 3 (.int .i64 0) ∧ Boxed W (w.heap.size + 1) 4 (.bool false)) ∧ Below w.heap.size w W)
    (fun cd pre W => (cd = .ret ∧ ∃ x, pre = [x] ∧ Boxed W w.heap.size 3 (.int .i64 x) ∧ Boxed W (w.heap.size + 1) 4 (.bool true)) ∧ Below w.heap.size w W)
    (OwnFrom.and (fun s A B row hs hg hr => ⟨hs.1, boxed_keep hs.2.1 hg hr, boxed_keep hs.2.2 hg hr⟩) (ownFrom_below (Nat.le_refl _) (by simp; omega)))
    (fun cd => OwnFrom.and (fun s A B row hs hg hr => by obtain ⟨h1, x, h2, h3, h4⟩ := hs; exact ⟨h1, x, h2, boxed_keep h3 hg hr, boxed_keep h4 hg hr⟩) (ownFrom_below (Nat.le_refl _) (by simp; omega)))
    ⟨⟨rfl, (c0.alloc _).alloc _, c1.alloc _⟩, hB0⟩
    (fun x => { tmps := #[.slice a rl.length c, undef, .pointer (some ⟨w.heap.size, 0, none⟩), .pointer (some ⟨w.heap.size + 1, 0, none⟩), .int .i64 x, .slice a rl.length c, .func (.func 29) #[] #[.pointer (some ⟨w.heap.size + 1 + 1, 0, none⟩)], .int .i64 x, undef], defers := [] }) ?assign ?body ?done ?stop
  case assign =>
    intro l x W K hK
    gi_wp2
    exact hK
  case body =>
    rintro l pre x W ⟨⟨rfl, b0, b1⟩, hB⟩ _
    have q0 := b0.cell
    have q1 := b1.cell
    have f0 := b0.frozen
    have f1 := b1.frozen
    gi_wp2
    exact ⟨((KeepsOthers.setCell W ⟨w.heap.size, 0, none⟩ (.int .i64 x)).trans (KeepsOthers.setCell _ ⟨w.heap.size + 1, 0, none⟩ (.bool true))).from _, ⟨rfl, x, rfl, boxed_other (b0.set _) (by omega), (boxed_other b1 (by omega)).set _⟩, (hB.setCell (p := ⟨w.heap.size, 0, none⟩) (Nat.le_refl _) _).setCell (p := ⟨w.heap.size + 1, 0, none⟩) (by simp) _⟩
  case done =>
    rintro D ys W hD rfl ⟨⟨he, b0, b1⟩, hB⟩ hK
    have hn := Rs.elems_nil HC he
    have q0 := b0.cell
    have q1 := b1.cell
    have f0 := b0.frozen
    have f1 := b1.frozen
    gi_wp2
    have hD' : w.heap.size + 2 < D := by simp at hD; omega
    have hK' := ((KeepsOthers.setCell W ⟨w.heap.size, 0, none⟩ (.int .i64 0)).trans (KeepsOthers.setCell _ ⟨w.heap.size + 1, 0, none⟩ (.bool false))).same D _ hK rfl
    have e0 : Boxed _ w.heap.size 3 (.int .i64 0) := boxed_other (C := w.heap.size + 1) (u := .bool false) (b0.set (.int .i64 0)) (by omega)
    have e1 : Boxed _ (w.heap.size + 1) 4 (.bool false) := (boxed_other (C := w.heap.size) (u := .int .i64 0) b1 (by omega)).set (.bool false)
    have z0 := (e0.kept (grownBy_putObj' _ D (.deferred none)) (fun e => by cases e; omega)).cell
    have z1 := (e1.kept (grownBy_putObj' _ D (.deferred none)) (fun e => by cases e; omega)).cell
    refine ⟨by simp, .inl ⟨_, _, rfl, run_takeDeferred hK', ?_⟩⟩
    refine ⟨.tuple #[.int .i64 0, .bool false], ?_, by rw [hn]; rfl, ((hB.setCell (p := ⟨w.heap.size, 0, none⟩) (Nat.le_refl _) _).setCell (p := ⟨w.heap.size + 1, 0, none⟩) (by simp) _).trans (belowK_b (w := w) (Nat.le_refl _) _ D _ _ (by omega) hK' rfl rfl)⟩
    simp [results, Try.results11, go_sem, z0, z1]
  case stop =>
    rintro D cd pre W hD hpre ⟨⟨rfl, x, rfl, b0, b1⟩, hB⟩ hK
    gi_wp2
    have hD' : w.heap.size + 2 < D := by simp at hD; omega
    have z0 := (b0.kept (grownBy_putObj' _ D (.deferred none)) (fun e => by cases e; omega)).cell
    have z1 := (b1.kept (grownBy_putObj' _ D (.deferred none)) (fun e => by cases e; omega)).cell
    have hf : firstOf (Rs.norm rl) = (x, true) := by
      cases hS : Rs.norm rl with
      | nil => rw [hS] at hpre; have := hpre.length_le; simp [Rs.elems] at this
      | cons r t =>
        rw [hS] at hpre HC
        obtain ⟨u, hu⟩ := Rs.elems_head HC
        rw [hu] at hpre
        obtain ⟨t', ht⟩ := hpre
        simp at ht
        rw [ht.1]
        rfl
    refine ⟨by simp, .inl ⟨_, _, rfl, run_takeDeferred hK, ?_⟩⟩
    refine ⟨.tuple #[.int .i64 x, .bool true], ?_, by rw [hf], hB.trans (belowK_b (w := w) (Nat.le_refl _) W D _ _ (by omega) hK rfl rfl)⟩
    simp [results, Try.results11, go_sem, z0, z1]
theorem first_any {F : Asn} {w : World} {R : Ending → World → Prop} {v : Value} {rl : List Rn} (hv : ReadsR F v rl) (hl : rl.length ≤ 10000) {f : Int} {d : Bool} (hf : Hid (firstOf (Rs.norm rl) = (f, d))) (H : Sat F w) (h : ∀ w', Sat F w' → Io w w' → R (.returned (.tuple #[.int .i64 f, .bool d])) w') :
    Calls Try.prog 11 #[v] w R := by
  refine (first_calls hv hl H).mono ?_
  rintro e w' ⟨rfl, hb⟩
  rw [hf.out]
  exact h w' (H.keep fun k hk => hb.block k hk) ⟨hb.os, hb.tape, hb.output, hb.size⟩
end Go.Proofs.Ytaekcmpeglagnaa
