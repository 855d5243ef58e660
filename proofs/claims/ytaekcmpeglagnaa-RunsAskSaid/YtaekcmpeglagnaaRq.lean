/-
  Runs: All, a function over which is ranged: what it gives to whatever loop. It proves no statement by itself.
-/
import Derived.Test.YtaekcmpeglagnaaRu
import Derived.Test.YtaekcmpeglagnaaRe
import Derived.RangeFuncNested
import Derived.RangeFuncBound
import Derived.RangeFuncCalls
import Derived.RangeFuncLeaves
import Derived.Shelf.Abstract
import Derived.Shelf.RegionOpen
import Derived.OwnWalkIn
import Derived.TacticsInMore
import Derived.LoopNIn
import Derived.LoopIn
import Derived.Maps.AppendAt
namespace Go.Proofs.Ytaekcmpeglagnaa
open Go.RowKit Go.Lib Go.Shelf
set_option linter.unusedSimpArgs false
set_option linter.unusedVariables false
attribute [local go_sem] Oper.semAt_some

/-- Rows of runs lie as they lay. -/
def KeepsRuns (W W' : World) : Prop := ∀ (k : Nat) (c : Array Value) (fr : Nat × Nat), W.heap[k]? = some (.cells c 28 fr) → W'.heap[k]? = some (.cells c 28 fr)
theorem KeepsRuns.refl (W : World) : KeepsRuns W W := fun _ _ _ h => h
theorem KeepsRuns.trans {A B C : World} (h : KeepsRuns A B) (k : KeepsRuns B C) : KeepsRuns A C := fun i c fr hi => k i c fr (h i c fr hi)
theorem KeepsRuns.put {w : World} (W : World) (l : Nat) (o o' : Obj) (_ : w.heap.size ≤ l) (h : W.heap[l]? = some o) (hc : o.isCells = false) (_ : o.isWalk = false) : KeepsRuns W (W.putObj l o') := by
  intro k c fr hk
  have hlk : l ≠ k := by
    rintro rfl
    rw [h] at hk
    cases hk
    cases hc
  exact ((grownBy_putObj' W l o').block k (Array.getElem?_eq_some_iff.1 hk).1 (fun e => by cases e; exact hlk rfl)).trans hk
theorem KeepsRuns.of_grown {W W' : World} {row : Option Nat} (hg : W.grownBy W' row) (hr : ∀ r, row = some r → ∃ c t fr, W.heap[r]? = some (.cells c t fr) ∧ t ≠ 28) : KeepsRuns W W' := by
  intro k c fr hk
  refine (hg.block k (Array.getElem?_eq_some_iff.1 hk).1 ?_).trans hk
  intro e
  obtain ⟨c', t, fr', h1, h2⟩ := hr k e.symm
  rw [hk] at h1
  cases h1
  exact h2 rfl
theorem KeepsRuns.alloc (W : World) (o : Obj) : KeepsRuns W (W.alloc o) := KeepsRuns.of_grown (World.grownBy_alloc W o none) (fun r e => by cases e)

/-- These runs lie at a slice's address. -/
def RunsAt (a : Option Addr) (S : List Rn) (W : World) : Prop := ∀ k (hk : k < S.length), ∃ g cur, a = some ⟨g, 0, none⟩ ∧ W.heap[g]? = some (.cells cur 28 (0, 0)) ∧ cur[k * 2]? = some (.int .i64 S[k].1) ∧ cur[k * 2 + 1]? = some (.int .i64 S[k].2)
theorem RunsAt.kept {a : Option Addr} {S : List Rn} {W W' : World} (h : RunsAt a S W) (hk : KeepsRuns W W') : RunsAt a S W' := by
  intro k hlt
  obtain ⟨g, cur, h1, h2, h3⟩ := h k hlt
  exact ⟨g, cur, h1, hk g _ _ h2, h3⟩
theorem RunsAt.of_row {F : Asn} {W : World} {v : Value} {S : List Rn} (H : Sat (RowR v S * F) W) (hl : S.length ≤ 1000000) : ∃ a c, v = .slice a S.length c ∧ RunsAt a S W := by
  obtain ⟨hx, ⟨rfl, h0, _⟩ | ⟨g, cap, cur, rfl, h2, h3, h4, h5, h⟩⟩ := sat_row.1 H
  · have : S = [] := List.eq_nil_of_length_eq_zero h0
    subst this
    exact ⟨none, 0, rfl, fun k hk => by simp at hk⟩
  · refine ⟨_, cap, rfl, fun k hk => ⟨g, cur, rfl, h.left.at, ?_, ?_⟩⟩
    · have e := cellsOf_get encR_ok S k hk 0 (by omega)
      rw [Nat.add_zero, ← h5, List.getElem?_take_of_lt (by omega), Array.getElem?_toList] at e
      exact e
    · have e := cellsOf_get encR_ok S k hk 1 (by omega)
      rw [← h5, List.getElem?_take_of_lt (by omega), Array.getElem?_toList] at e
      exact e
theorem heap_cell {W : World} {g : Nat} {cur : Array Value} {t : TypeId} (h : W.heap[g]? = some (.cells cur t (0, 0))) (j : Nat) : W.cell? ⟨g, j, none⟩ = cur[j]? := Sat.read h j

set_option maxRecDepth 100000 in
set_option maxHeartbeats 4000000 in
/-- The closure of All: its numbers go to whatever loop keeps rows of runs. -/
theorem all1_in (n : Nat) (hn : 1 ≤ n) (l Bn : Nat) {F : Asn} {v : Value} {rl : List Rn} (hv : ReadsR F v rl) (hl : rl.length ≤ 10000) (J Jx : List Int → World → Prop) (W : World) (hJ : AbidesFrom W.heap.size J) (hS : Sat F W)
    (hY : ∀ pre x W1, J pre W1 → pre.length < (Rs.elems (Rs.norm rl)).length → YieldAt Fence.wide (n - 1) Try.prog l #[.int .i64 x] W1 fun e W' =>
      (e = .returned (.bool true) ∧ J (pre ++ [x]) W' ∧ KeepsRuns W1 W') ∨ (e = .returned (.bool false) ∧ Jx (pre ++ [x]) W'))
    (hBn : W.cell? ⟨Bn, 0, none⟩ = some v) (h0 : J [] W) :
    CallsIn Fence.wide n Try.prog 29 #[.func (.yield l) #[] #[], .pointer (some ⟨Bn, 0, none⟩)] W fun e W' => (∃ v, e = .returned v) ∧
      ((∃ ys, ys = Rs.elems (Rs.norm rl) ∧ J ys W') ∨ (∃ pre, pre <+: Rs.elems (Rs.norm rl) ∧ Jx pre W')) := by
  have hvW : ReadsR (whole W) v rl := hv.imp fun w' hw => hS.keep fun k hk => hw.was k hk
  have hc0 := Rs.canon_norm rl
  have hnl := Rs.norm_len rl
  obtain ⟨S, hSn⟩ : ∃ S, Rs.norm rl = S := ⟨_, rfl⟩
  rw [hSn] at hY hc0 hnl ⊢
  have HC := Lib.hid hc0
  have HY := Lib.hid hY
  have HJ := Lib.hid hJ
  clear hY hJ hc0
  refine callsIn_of_wp Try.func29 rfl trivial ?_ rfl
  simp only [Try.ntmps29, List.size_toArray, List.length_cons, List.length_nil, Nat.reduceAdd, Nat.reduceSub, Array.replicate_succ, Array.replicate_zero, List.push_toArray, List.append_toArray, List.nil_append, List.cons_append]
  gi_wp2_with (refine ⟨trivial, ?_⟩; gi_at_call 19; refine callsIn_wide.2 (norm_any hvW hl (Sat.all W) ?_); intro v1 w1 H1 I1; rw [hSn] at H1; have hJ1 : J [] w1 := HJ.out [] W w1 none h0 ⟨I1.os, I1.tape, I1.output, I1.size, fun k hk _ => H1.right.was k hk⟩ (fun r e => by cases e); obtain ⟨a1, c1, rfl, hR1⟩ := RunsAt.of_row H1 (by omega))
  clear hvW H1 I1 h0 hBn hS hv hSn
  gi_loopw [9] (fun x wr => ∃ k : Nat, k ≤ S.length ∧ x = .int .i64 (k : Int) ∧ Hid (J (Rs.elems (S.take k)) wr) ∧ Hid (RunsAt a1 S wr)) (fun x _ => S.length - (intOf x).toNat)
  case atStart => exact ⟨0, by omega, rfl, Lib.hid hJ1, Lib.hid hR1⟩
  case round =>
    obtain ⟨k, hk, rfl, hJk, hRk⟩ := hrel
    clear hJ1 hR1
    by_cases hlt : k < S.length
    · have hlti : (k : Int) < (S.length : Int) := by omega
      obtain ⟨g, cur, rfl, hg, u0, u1⟩ := hRk.out k hlt
      obtain ⟨y0, y1, y2⟩ := HC.out.1 S[k] (List.getElem_mem hlt)
      obtain ⟨x1, x2, hx⟩ : ∃ x1 x2, S[k] = (x1, x2) := ⟨_, _, rfl⟩
      rw [hx] at y0 y1 y2 u0 u1
      simp only [Rs.most] at y0 y1 y2
      have c0 : wr.cell? ⟨g, k * 2, none⟩ = some (.int .i64 x1) := (heap_cell hg _).trans u0
      have c1' : wr.cell? ⟨g, k * 2 + 1, none⟩ = some (.int .i64 x2) := (heap_cell hg _).trans u1
      have hJa := Lib.hid (HJ.out _ wr (wr.alloc (.cells #[.int .i64 x1, .int .i64 x2] 28)) none hJk.out (World.grownBy_alloc wr _ none) (fun r e => by cases e))
      have hRa := Lib.hid (hRk.out.kept (KeepsRuns.alloc wr (.cells #[.int .i64 x1, .int .i64 x2] 28)))
      have hBa := Lib.hid (heap_alloc_new wr (.cells #[.int .i64 x1, .int .i64 x2] 28))
      have HX := Lib.hid hx
      clear hg u0 u1 hJk hRk hx
      gi_wp2
      clear c0 c1'
      generalize wr.alloc (.cells #[.int .i64 x1, .int .i64 x2] 28) = wa at *
      generalize wr.heap.size = br at *
      gi_loopw [5] (fun x wv => ∃ j : Nat, x = .int .i64 (x1 + (j : Int)) ∧ (j : Int) ≤ x2 - x1 + 1 ∧ Hid (J (Rs.elems (S.take k) ++ (Rs.elemsR (x1, x2)).take j) wv) ∧ Hid (RunsAt (some ⟨g, 0, none⟩) S wv) ∧ Hid (wv.heap[br]? = some (.cells #[.int .i64 x1, .int .i64 x2] 28 (0, 0)))) (fun x _ => (x2 + 1 - intOf x).toNat)
      case atStart => exact ⟨0, by simp, by omega, Lib.hid (by simpa using hJa.out), hRa, hBa⟩
      case round =>
        obtain ⟨j, rfl, hj, hJj, hRj, hBj⟩ := hrel
        clear hJa hRa hBa
        have hjl : (Rs.elemsR (x1, x2)).length = (x2 - x1 + 1).toNat := Rs.elemsR_len _
        have cb : wr.cell? ⟨br, 1, none⟩ = some (.int .i64 x2) := heap_cell hBj.out 1
        by_cases hle : x1 + (j : Int) ≤ x2
        · have htk := Rs.elemsR_take (x1, x2) j (by show j < (x2 - x1 + 1).toNat; omega)
          have hpre := Rs.elems_prefix S k hlt (j + 1)
          rw [HX.out, htk, ← List.append_assoc] at hpre
          have hlen : (Rs.elems (S.take k) ++ (Rs.elemsR (x1, x2)).take j).length < (Rs.elems S).length := by
            have := hpre.length_le
            rw [List.length_append] at this
            simp only [List.length_cons, List.length_nil] at this
            omega
          obtain ⟨fn, tmps, assign, body, hy, hR⟩ := HY.out _ (x1 + (j : Int)) wr hJj.out hlen
          have HP := Lib.hid hpre
          have HT := Lib.hid htk
          clear hpre htk hlen
          gi_wp2
          refine hR.mono ?_
          rintro e W3 (⟨rfl, hJ3, hk3⟩ | ⟨rfl, hJx3⟩)
          · gi_wp2
            go_roundw
            case rel => exact ⟨j + 1, by go_num, by omega, Lib.hid (by rw [HT.out, ← List.append_assoc]; exact hJ3), Lib.hid (hRj.out.kept hk3), Lib.hid (hk3 _ _ _ hBj.out)⟩
            case measure => simp [intOf]; omega
          · gi_wp2
            refine bodyPost_ret (results_none rfl _ _ _) rfl ?_
            exact ⟨⟨_, rfl⟩, .inr ⟨_, HP.out, hJx3⟩⟩
        · have hJe := hJj.out
          have hfull : (Rs.elemsR (x1, x2)).take j = Rs.elemsR (x1, x2) := List.take_of_length_le (by rw [hjl]; omega)
          rw [hfull, ← HX.out, ← Rs.elems_take S k hlt] at hJe
          gi_wp2
          go_roundw
          case rel => exact ⟨k + 1, by omega, by go_num, Lib.hid hJe, hRj⟩
          case measure => simp [intOf]; omega
    · obtain rfl : k = S.length := by omega
      have hge : ¬ (S.length : Int) < (S.length : Int) := by omega
      have he := hJk.out
      rw [List.take_length] at he
      gi_wp2
      go_end0
      exact ⟨⟨_, rfl⟩, .inl he⟩
set_option maxRecDepth 100000 in
/-- All: its argument is boxed; the function value captures the box. -/
theorem all_any (v : Value) (a : Option Addr) (k c : Nat) (hv : v = .slice a k c) (w : World) :
    Calls Try.prog 17 #[v] w fun e w' => e = .returned (.func (.func 29) #[] #[.pointer (some ⟨w.heap.size, 0, none⟩)]) ∧ w' = w.alloc (.cells #[v] 22) := by
  subst hv
  go_enter Try.func17, Try.ntmps17
  go_wp2_with fail
  go_ret
  exact ⟨rfl, rfl⟩
theorem all_stops (n : Nat) (hn : 1 ≤ n) (Bn : Nat) {F : Asn} {v : Value} {rl : List Rn} (hv : ReadsR F v rl) (hl : rl.length ≤ 10000) (w : World) (hBn : Bn < w.heap.size) (hS : Sat F w) (hc : w.cell? ⟨Bn, 0, none⟩ = some v) :
    SeqStopsK Fence.wide n Try.prog 29 #[.pointer (some ⟨Bn, 0, none⟩)] (fun x : Int => #[Value.int .i64 x]) KeepsRuns (fun ys => ys = Rs.elems (Rs.norm rl)) (fun pre => pre <+: Rs.elems (Rs.norm rl)) (Rs.elems (Rs.norm rl)).length w := fun l J Jx W hW hJ _ hY h0 =>
  all1_in n hn l Bn hv hl J Jx W hJ (hS.keep fun k hk => hW.block k hk) hY ((hW.cell (p := ⟨Bn, 0, none⟩) hBn).trans hc) h0
theorem boxed_keep {W W' : World} {B : Nat} {t : TypeId} {v : Value} {row : Option Nat} {X : Nat} (h : Boxed W B t v) (hg : W.grownBy W' row) (hr : ∀ r, row = some r → X ≤ r ∧ ∃ o : Obj, W.heap[r]? = some o ∧ o.isCells = false) : Boxed W' B t v :=
  h.kept hg (fun e => by
    obtain ⟨_, o, h1, h2⟩ := hr B e.symm
    rw [show W.heap[B]? = _ from h] at h1
    cases h1
    cases h2)
theorem boxed_other {W : World} {B C : Nat} {t : TypeId} {v u : Value} (h : Boxed W B t v) (hne : B ≠ C) : Boxed (W.setCell ⟨C, 0, none⟩ u) B t v := h.kept (grownBy_setCell' W C u) (fun e => by cases e; exact hne rfl)
end Go.Proofs.Ytaekcmpeglagnaa
