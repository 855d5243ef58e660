/-
  Runs: RunsAsk, by its walk. It proves no statement by itself.
-/
import Derived.Test.YtaekcmpeglagnaaRw8
import Derived.Test.YtaekcmpeglagnaaR8c
import Derived.RangeFuncBox
namespace Go.Proofs.Ytaekcmpeglagnaa
open Go.RowKit Go.Lib Go.Shelf
set_option linter.unusedSimpArgs false
set_option linter.unusedVariables false
attribute [local go_sem] Oper.semAt_some

theorem readsI_get {F : Asn} {a : Option Addr} {n c : Nat} {l : List Int} (hl : ReadsI F (.slice a n c) l) (k : Nat) (hk : k < l.length) : ∃ b off x, a = some ⟨b, off, none⟩ ∧ l[k] = x ∧ ∀ w, Sat F w → w.cell? ⟨b, off + k, none⟩ = some (.int .i64 x) := by
  obtain ⟨b, off, h1, h2⟩ := hl.get encI_ok k hk
  refine ⟨b, off, _, h1, rfl, fun w hw => ?_⟩
  have := h2 w hw 0 _ (by omega) rfl
  simpa using this
/-- How many of a list's numbers stand ahead of a run. -/
def ahead8 (S : List Rn) (i : Nat) : Nat := (Rs.elems (S.take i)).length
theorem ahead8_succ (S : List Rn) (i : Nat) (hi : i < S.length) : ahead8 S (i + 1) = ahead8 S i + (S[i].2 - S[i].1 + 1).toNat := by
  unfold ahead8
  rw [Rs.elems_take S i hi, List.length_append, Rs.elemsR_len]
theorem ahead8_le (S : List Rn) (i : Nat) (hi : i < S.length) : ahead8 S (i + 1) ≤ (Rs.elems S).length := by
  have h := Rs.elems_prefix S i hi (S[i].2 - S[i].1 + 1).toNat
  have := h.length_le
  rw [List.length_append, List.length_take, Rs.elemsR_len] at this
  rw [ahead8_succ S i hi]
  unfold ahead8
  omega
theorem ahead8_top (S : List Rn) (i : Nat) : ahead8 S i ≤ (Rs.elems S).length := by
  unfold ahead8 Rs.elems
  conv => rhs; rw [← List.take_append_drop i S, List.flatMap_append, List.length_append]
  omega
theorem ahead8_all (S : List Rn) : ahead8 S S.length = (Rs.elems S).length := by unfold ahead8; rw [List.take_length]
theorem ahead8_get (S : List Rn) (i : Nat) (hi : i < S.length) (j : Nat) (hj : (j : Int) < S[i].2 - S[i].1 + 1) (h : ahead8 S i + j < (Rs.elems S).length) : (Rs.elems S)[ahead8 S i + j] = S[i].1 + (j : Int) := by
  have hp := Rs.elems_prefix S i hi (j + 1)
  rw [Rs.elemsR_take S[i] j (by omega), ← List.append_assoc] at hp
  have hl : ((Rs.elems (S.take i)) ++ (Rs.elemsR S[i]).take j).length = ahead8 S i + j := by
    rw [List.length_append, List.length_take, Rs.elemsR_len]
    unfold ahead8
    omega
  have hg : ((Rs.elems (S.take i)) ++ (Rs.elemsR S[i]).take j ++ [S[i].1 + (j : Int)])[ahead8 S i + j]'(by rw [List.length_append, hl]; simp) = S[i].1 + (j : Int) := by
    rw [List.getElem_append_right (by omega)]
    simp
  rw [← hg]
  exact (hp.getElem _).symm
set_option maxRecDepth 100000 in
set_option maxHeartbeats 16000000 in
theorem runsAsk_nil {w : World} {va : Value} {a : List Rn} (n most : Int) (ha : ReadsR (whole w) va a) (qa : ¬ (40 : Int) < (a.length : Int)) (qm : ¬ (1000 : Int) < most) (hz : Rs.norm a = []) :
    Calls Try.prog 3 #[va, .int .i64 n, .int .i64 most] w fun e W' => e = .returned (.bool true) ∧ Below w.heap.size w W' := by
  have HC := Lib.hid (Rs.canon_norm a)
  have l7 := Rs.norm_len a
  obtain ⟨aa, ac, rfl, am⟩ := readsR_len ha
  obtain ⟨S, hS⟩ : ∃ S, Hid (Rs.norm a = S) := ⟨_, Lib.hid rfl⟩
  obtain ⟨o, ho⟩ : ∃ o, Hid (o = (Rs.elems (Rs.norm a)).take most.toNat) := ⟨_, Lib.hid rfl⟩
  obtain ⟨dh, NH⟩ : ∃ d, Hid (d = decide (Rs.Has a n)) := ⟨_, Lib.hid rfl⟩
  obtain ⟨cc, NC⟩ : ∃ c, Hid (c = Rs.count a) := ⟨_, Lib.hid rfl⟩
  have HF : Hid (firstOf (Rs.norm a) = (0, false)) := Lib.hid (by rw [hz]; rfl)
  have hl0 : S.length = 0 := by rw [← hS.out, hz]; rfl
  have hN : (Rs.elems (Rs.norm a)).length ≤ 4294967296 := by
    have h1 := Rs.elems_len (Rs.norm a) HC.out
    have h2 := Rs.len_bound HC.out (Rs.norm a).length
    rw [List.take_length] at h2
    simp only [Rs.most] at h2
    omega
  have hSl : S.length ≤ 40 := by rw [← hS.out]; omega
  have ol : o.length ≤ 1000 := by rw [ho.out, List.length_take]; omega
  have H0 := (Sat.all w).new (.cells #[.bool false] 4)
  have I0 := (Io.refl w).alloc (.cells #[.bool false] 4)
  refine (callsIn_wide (n := 6)).1 ?_
  refine callsIn_of_wp_marks Try.func3 rfl trivial ?_ rfl
  simp only [Try.ntmps3, List.size_toArray, List.length_cons, List.length_nil, Nat.reduceAdd, Nat.reduceSub, Array.replicate_succ, Array.replicate_zero, List.push_toArray, List.append_toArray, List.nil_append, List.cons_append]
  gi_wp2_with (first
    | (refine ⟨trivial, ?_⟩; gi_at_call 9; refine callsIn_wide.2 (works_any H0 ?_); intro w1 H1 I1)
    | (refine ⟨trivial, ?_⟩; gi_at_call 10; refine callsIn_wide.2 (rnorm_any ha.with (by omega) H1 ?_); intro v2 w2 H2 I2; rw [hS.out] at H2; have r2 := Reads.of_row H2 (by omega); obtain ⟨sa, sc, rfl, sm⟩ := readsR_len r2)
    | (refine ⟨trivial, ?_⟩; gi_at_call 11; refine callsIn_wide.2 (first_any ha.with.with (by omega) HF H2 ?_); intro w3 H3 I3)
    | (refine ⟨trivial, ?_⟩; gi_at_call 12; refine callsIn_wide.2 (has_any ha.with.with n NH H3 ?_); intro w4 H4 I4)
    | (refine ⟨trivial, ?_⟩; gi_at_call 13; refine callsIn_wide.2 (rhasr_any ha.with.with n NH H4 ?_); intro w5 H5 I5)
    | (refine ⟨trivial, ?_⟩; gi_at_call 14; refine callsIn_wide.2 (count_any ha.with.with (by omega) NC H5 ?_); intro w6 H6 I6)
    | (refine ⟨trivial, ?_⟩; gi_at_call 15; refine callsIn_wide.2 (rcount_any ha.with.with (by omega) NC H6 ?_); intro w7 H7 I7)
    | (refine ⟨trivial, ?_⟩; gi_at_call 16; refine callsIn_wide.2 (list_any ha.with.with (by omega) most ho H7 ?_); intro v8 w8 H8 I8; have r8 := Reads.of_row H8 (by omega); obtain ⟨la, lc, rfl, lm⟩ := readsI_len r8))
  have hB8 : Below w.heap.size w w8 := ((((((((I0.trans I1).trans I2).trans I3).trans I4).trans I5).trans I6).trans I7).trans I8).below H8.right.right.right
  obtain ⟨X, HX, RS, RO, hbx, XW⟩ : ∃ X, Sat X w8 ∧ ReadsR X (.slice sa S.length sc) S ∧ ReadsI X (.slice la o.length lc) o ∧ (∀ W, Sat X W → Boxed W w.heap.size 4 (.bool false)) ∧ (∀ W, Sat X W → Sat (whole w) W) := ⟨_, H8, r2.with, r8, fun W hW => hW.right.right.left.at, fun W hW => hW.right.right.right⟩
  have hbw : w.heap.size < w8.heap.size := (hbx _ HX).lt
  clear H0 H1 H2 H3 H4 H5 H6 H7 H8 I0 I1 I2 I3 I4 I5 I6 I7 I8 r2 r8
  have bl := Boxed.new w8 31 (.slice la o.length lc)
  have X1 := HX.alloc (.cells #[.slice la o.length lc] 31)
  have B1 : Below w8.heap.size w8 (w8.alloc (.cells #[.slice la o.length lc] 31)) := (Below.refl _ _).alloc (Nat.le_refl _) _
  have hs1 : (w8.alloc (.cells #[.slice la o.length lc] 31)).heap.size = w8.heap.size + 1 := by simp
  generalize w8.alloc (.cells #[.slice la o.length lc] 31) = W1 at *
  have HR := Lib.hid RS
  have HO := Lib.hid RO
  have HCS : Hid (Rs.Canon S) := Lib.hid (by rw [← hS.out]; exact HC.out)
  have hol : Hid (o.length = min most.toNat (Rs.elems S).length) := Lib.hid (by rw [ho.out, List.length_take, hS.out])
  gi_loopw [12, 13] (fun k i wr => ∃ kk ii : Nat, ii ≤ S.length ∧ i = .int .i64 (ii : Int) ∧ k = .int .i64 (kk : Int) ∧ Hid (kk = min (ahead8 S ii) most.toNat) ∧ wr = W1) (fun _ i _ => S.length - (intOf i).toNat)
  case atStart => exact ⟨0, 0, by omega, rfl, rfl, Lib.hid (by simp [ahead8, Rs.elems]), rfl⟩
  case round =>
    obtain ⟨kk, ii, hii, rfl, rfl, hkk, hwr⟩ := hrel
    subst hwr
    have qb := bl.cell
    by_cases hlt : ii < S.length
    · exact absurd hlt (by omega)
    · have hge : ¬ (ii : Int) < (S.length : Int) := by omega
      have hkf : kk = o.length := by
        obtain rfl : ii = S.length := by omega
        rw [hkk.out, hol.out, ahead8_all]
        omega
      subst hkf
      clear hkk
      gi_wp2_with (refine ⟨trivial, ?_⟩; gi_at_call 17; refine (callsIn_wide.2 (all_any _ aa a.length ac rfl _)).mono ?_; rintro e w' ⟨rfl, rfl⟩)
      have c11 := (bl.alloc (.cells #[.int .i64 0] 3)).alloc (.cells #[.slice aa a.length ac] 22)
      have c15 := (hs1 ▸ Boxed.new wr 3 (.int .i64 0) : Boxed _ (w8.heap.size + 1) _ _).alloc (.cells #[.slice aa a.length ac] 22)
      have c2 := Boxed.new (wr.alloc (.cells #[.int .i64 0] 3)) 22 (.slice aa a.length ac)
      simp only [World.size_alloc, hs1] at c2
      have HS := ((XW _ X1).alloc (.cells #[.int .i64 0] 3)).alloc (.cells #[.slice aa a.length ac] 22)
      have hB0 : Below w8.heap.size w8 ((wr.alloc (.cells #[.int .i64 0] 3)).alloc (.cells #[.slice aa a.length ac] 22)) := (B1.alloc (by omega) _).alloc (by simp; omega) _
      refine wpIn_rangeFunc_ownG rfl (by omega) (gf := 29) (lb := #[.pointer (some ⟨w8.heap.size + 1 + 1, 0, none⟩)]) rfl trivial (enters_of Try.func29 (by kernel_rfl) rfl)
        (all_stops (6 - 1) (by omega) (w8.heap.size + 1 + 1) ha (by omega) _ (by simp; omega) HS c2.cell) KeepsRuns.trans KeepsRuns.put (Below.refl _ _) (fun _ => rfl)
        (fun pre W => (Boxed W w8.heap.size 31 (.slice la o.length lc) ∧ Boxed W (w8.heap.size + 1) 3 (.int .i64 (pre.length : Int)) ∧ pre.length ≤ o.length) ∧ Below w8.heap.size w8 W)
        (fun cd pre W => ((Boxed W w8.heap.size 31 (.slice la o.length lc) ∧ Boxed W (w8.heap.size + 1) 3 (.int .i64 (pre.dropLast.length : Int)) ∧ cd = .exit 4 ∧ pre.dropLast.length = o.length) ∧ Below w8.heap.size w8 W) ∨ (cd = .ret ∧ ∃ p x, pre = p ++ [x] ∧ ∃ h : p.length < o.length, o[p.length] ≠ x))
        (OwnFrom.and (fun s A B row hs hg hr => ⟨boxed_keep hs.1 hg hr, boxed_keep hs.2.1 hg hr, hs.2.2⟩) (ownFrom_below (Nat.le_refl _) (by simp; omega)))
        (fun cd s A B row hs hg hr => hs.elim (fun h => .inl ⟨⟨boxed_keep h.1.1 hg hr, boxed_keep h.1.2.1 hg hr, h.1.2.2⟩, ownFrom_below (β := List Int) (Nat.le_refl _) (by simp; omega) s A B row h.2 hg hr⟩) .inr)
        ⟨⟨c11, c15, Nat.zero_le _⟩, hB0⟩ ?acts ?assign ?body ?done ?stop
      case assign =>
        intro l x W K hK
        gi_wp2
        exact hK
      case body =>
        rintro l pre x W ⟨⟨b11, b15, hple⟩, hB⟩ hlt
        have q11 := b11.cell
        have q15 := b15.cell
        have f15 := b15.frozen
        have HXW : Sat X W := HX.keep fun k hk => hB.block k hk
        by_cases hlt2 : pre.length < o.length
        · have hgi : ¬ (o.length : Int) ≤ (pre.length : Int) := by omega
          have hgl : (pre.length : Int) < (o.length : Int) := by omega
          have hg0 : (0 : Int) ≤ (pre.length : Int) := by omega
          obtain ⟨lb, lo, y, rfl, hy, hd⟩ := readsI_get RO pre.length hlt2
          have d0 := hd W HXW
          by_cases hyx : y = x
          · subst hyx
            gi_wp2
            have e1 : ((pre ++ [y]).length : Int) = (pre.length : Int) + 1 := by simp
            refine ⟨(KeepsOthers.setCell W ⟨w8.heap.size + 1, 0, none⟩ _).from _, KeepsRuns.of_grown (grownBy_setCell' W (w8.heap.size + 1) _) (fun r e => by cases e; exact ⟨_, _, _, b15, by decide⟩), ⟨boxed_other b11 (by omega), ?_, ?_⟩, hB.setCell (p := ⟨w8.heap.size + 1, 0, none⟩) (by show w8.heap.size ≤ (w8.heap.size + 1); omega) _⟩
            · rw [e1]; exact b15.set _
            · simp; omega
          · have fr := (hbx W HXW).frozen; have qr := (hbx W HXW).cell
            gi_wp2
            exact ⟨(KeepsOthers.setCell W ⟨w.heap.size, 0, none⟩ _).from _, .inr ⟨rfl, pre, x, rfl, hlt2, by rw [hy]; exact hyx⟩⟩
        · have hgi : (o.length : Int) ≤ (pre.length : Int) := by omega
          gi_wp2
          exact ⟨(KeepsOthers.refl _).from _, .inl ⟨⟨b11, by rw [List.dropLast_concat]; exact b15, rfl, by rw [List.dropLast_concat]; omega⟩, hB⟩⟩
      case done =>
        rintro D ys W hD rfl ⟨⟨b11, b15, hple⟩, hB⟩ hK
        have hEl : (Rs.elems (Rs.norm a)).length = o.length := by rw [ho.out, List.length_take]; rw [ho.out, List.length_take] at hple; omega
        rw [hEl] at b15
        have q11 := b11.cell
        have q15 := b15.cell
        have HXW : Sat X W := HX.keep fun k hk => hB.block k hk
        have br := hbx W HXW
        have fr := br.frozen
        have qr := br.cell
        gi_wp2
        have hK' := (KeepsOthers.setCell W ⟨w.heap.size, 0, none⟩ (.bool true)).same D _ hK rfl
        have e0 : Boxed _ w.heap.size 4 (.bool true) := br.set (.bool true)
        have hD' : w.heap.size < D := by simp at hD; omega
        have z0 := (e0.kept (grownBy_putObj' _ D (.deferred none)) (fun e => by cases e; omega)).cell
        refine ⟨by simp, .inl ⟨_, _, rfl, run_takeDeferred hK', ?_⟩⟩
        refine ⟨.bool true, ?_, rfl, ((hB8.trans (hB.mono (by omega))).setCell (p := ⟨w.heap.size, 0, none⟩) (Nat.le_refl _) _).trans (belowK_b (w := w) (Nat.le_refl _) _ D _ _ (by omega) hK' rfl rfl)⟩
        simp [results, Try.results3, go_sem, z0]
      case stop =>
        rintro D cd pre W hD hpre (⟨⟨b11, b15, rfl, hlen⟩, hB⟩ | ⟨rfl, p, x, rfl, hp, hne⟩) hK
        · rw [hlen] at b15
          have q11 := b11.cell
          have q15 := b15.cell
          have HXW : Sat X W := HX.keep fun k hk => hB.block k hk
          have br := hbx W HXW
          have fr := br.frozen
          have qr := br.cell
          gi_wp2
          have hK' := (KeepsOthers.setCell W ⟨w.heap.size, 0, none⟩ (.bool true)).same D _ hK rfl
          have e0 : Boxed _ w.heap.size 4 (.bool true) := br.set (.bool true)
          have hD' : w.heap.size < D := by simp at hD; omega
          have z0 := (e0.kept (grownBy_putObj' _ D (.deferred none)) (fun e => by cases e; omega)).cell
          refine ⟨by simp, .inl ⟨_, _, rfl, run_takeDeferred hK', ?_⟩⟩
          refine ⟨.bool true, ?_, rfl, ((hB8.trans (hB.mono (by omega))).setCell (p := ⟨w.heap.size, 0, none⟩) (Nat.le_refl _) _).trans (belowK_b (w := w) (Nat.le_refl _) _ D _ _ (by omega) hK' rfl rfl)⟩
          simp [results, Try.results3, go_sem, z0]
        · exfalso
          apply hne
          have h1 := hpre.getElem (i := p.length) (by simp)
          rw [List.getElem_append_right (by omega)] at h1
          simp only [Nat.sub_self, List.getElem_cons_zero] at h1
          rw [h1]
          have h2 := ho.out
          subst h2
          exact List.getElem_take
set_option maxRecDepth 100000 in
set_option maxHeartbeats 16000000 in
theorem runsAsk_cons {w : World} {va : Value} {a : List Rn} (n most : Int) (ha : ReadsR (whole w) va a) (qa : ¬ (40 : Int) < (a.length : Int)) (qm : ¬ (1000 : Int) < most) (hz : Rs.norm a ≠ []) :
    Calls Try.prog 3 #[va, .int .i64 n, .int .i64 most] w fun e W' => e = .returned (.bool true) ∧ Below w.heap.size w W' := by
  have HC := Lib.hid (Rs.canon_norm a)
  have l7 := Rs.norm_len a
  obtain ⟨aa, ac, rfl, am⟩ := readsR_len ha
  obtain ⟨S, hS⟩ : ∃ S, Hid (Rs.norm a = S) := ⟨_, Lib.hid rfl⟩
  obtain ⟨o, ho⟩ : ∃ o, Hid (o = (Rs.elems (Rs.norm a)).take most.toNat) := ⟨_, Lib.hid rfl⟩
  obtain ⟨dh, NH⟩ : ∃ d, Hid (d = decide (Rs.Has a n)) := ⟨_, Lib.hid rfl⟩
  obtain ⟨cc, NC⟩ : ∃ c, Hid (c = Rs.count a) := ⟨_, Lib.hid rfl⟩
  obtain ⟨f0, HF⟩ : ∃ f, Hid (firstOf (Rs.norm a) = (f, true)) := by
    cases h : Rs.norm a with
    | nil => exact absurd h hz
    | cons r t => exact ⟨_, Lib.hid rfl⟩
  have hl0 : 0 < S.length := by rw [← hS.out]; exact List.length_pos_iff.2 hz
  have hl1 : (0 : Int) < (S.length : Int) := by omega
  have HF2 : Hid (S[0].1 = f0) := Lib.hid (by
    have h1 := HF.out
    have h2 := hS.out
    cases h : Rs.norm a with
    | nil => exact absurd h hz
    | cons r t =>
      rw [h] at h1 h2
      subst h2
      exact congrArg Prod.fst h1)
  have hN : (Rs.elems (Rs.norm a)).length ≤ 4294967296 := by
    have h1 := Rs.elems_len (Rs.norm a) HC.out
    have h2 := Rs.len_bound HC.out (Rs.norm a).length
    rw [List.take_length] at h2
    simp only [Rs.most] at h2
    omega
  have hSl : S.length ≤ 40 := by rw [← hS.out]; omega
  have ol : o.length ≤ 1000 := by rw [ho.out, List.length_take]; omega
  have H0 := (Sat.all w).new (.cells #[.bool false] 4)
  have I0 := (Io.refl w).alloc (.cells #[.bool false] 4)
  refine (callsIn_wide (n := 6)).1 ?_
  refine callsIn_of_wp_marks Try.func3 rfl trivial ?_ rfl
  simp only [Try.ntmps3, List.size_toArray, List.length_cons, List.length_nil, Nat.reduceAdd, Nat.reduceSub, Array.replicate_succ, Array.replicate_zero, List.push_toArray, List.append_toArray, List.nil_append, List.cons_append]
  gi_wp2_with (first
    | (refine ⟨trivial, ?_⟩; gi_at_call 9; refine callsIn_wide.2 (works_any H0 ?_); intro w1 H1 I1)
    | (refine ⟨trivial, ?_⟩; gi_at_call 10; refine callsIn_wide.2 (rnorm_any ha.with (by omega) H1 ?_); intro v2 w2 H2 I2; rw [hS.out] at H2; have r2 := Reads.of_row H2 (by omega); obtain ⟨sa, sc, rfl, sm⟩ := readsR_len r2; obtain ⟨sb, so, x1, x2, rfl, hx, hc⟩ := readsR_get r2 0 hl0; obtain rfl : x1 = f0 := (by rw [← HF2.out, hx]))
    | (refine ⟨trivial, ?_⟩; gi_at_call 11; refine callsIn_wide.2 (first_any ha.with.with (by omega) HF H2 ?_); intro w3 H3 I3; obtain ⟨c0, c1⟩ := hc w3 H3; simp only [Nat.zero_mul, Nat.add_zero] at c0 c1)
    | (refine ⟨trivial, ?_⟩; gi_at_call 12; refine callsIn_wide.2 (has_any ha.with.with n NH H3 ?_); intro w4 H4 I4)
    | (refine ⟨trivial, ?_⟩; gi_at_call 13; refine callsIn_wide.2 (rhasr_any ha.with.with n NH H4 ?_); intro w5 H5 I5)
    | (refine ⟨trivial, ?_⟩; gi_at_call 14; refine callsIn_wide.2 (count_any ha.with.with (by omega) NC H5 ?_); intro w6 H6 I6)
    | (refine ⟨trivial, ?_⟩; gi_at_call 15; refine callsIn_wide.2 (rcount_any ha.with.with (by omega) NC H6 ?_); intro w7 H7 I7)
    | (refine ⟨trivial, ?_⟩; gi_at_call 16; refine callsIn_wide.2 (list_any ha.with.with (by omega) most ho H7 ?_); intro v8 w8 H8 I8; have r8 := Reads.of_row H8 (by omega); obtain ⟨la, lc, rfl, lm⟩ := readsI_len r8))
  have hB8 : Below w.heap.size w w8 := ((((((((I0.trans I1).trans I2).trans I3).trans I4).trans I5).trans I6).trans I7).trans I8).below H8.right.right.right
  obtain ⟨X, HX, RS, RO, hbx, XW⟩ : ∃ X, Sat X w8 ∧ ReadsR X (.slice (some ⟨sb, so, none⟩) S.length sc) S ∧ ReadsI X (.slice la o.length lc) o ∧ (∀ W, Sat X W → Boxed W w.heap.size 4 (.bool false)) ∧ (∀ W, Sat X W → Sat (whole w) W) := ⟨_, H8, r2.with, r8, fun W hW => hW.right.right.left.at, fun W hW => hW.right.right.right⟩
  have hbw : w.heap.size < w8.heap.size := (hbx _ HX).lt
  clear H0 H1 H2 H3 H4 H5 H6 H7 H8 I0 I1 I2 I3 I4 I5 I6 I7 I8 r2 r8
  have bl := Boxed.new w8 31 (.slice la o.length lc)
  have X1 := HX.alloc (.cells #[.slice la o.length lc] 31)
  have B1 : Below w8.heap.size w8 (w8.alloc (.cells #[.slice la o.length lc] 31)) := (Below.refl _ _).alloc (Nat.le_refl _) _
  have hs1 : (w8.alloc (.cells #[.slice la o.length lc] 31)).heap.size = w8.heap.size + 1 := by simp
  generalize w8.alloc (.cells #[.slice la o.length lc] 31) = W1 at *
  have HR := Lib.hid RS
  have HO := Lib.hid RO
  have HCS : Hid (Rs.Canon S) := Lib.hid (by rw [← hS.out]; exact HC.out)
  have hol : Hid (o.length = min most.toNat (Rs.elems S).length) := Lib.hid (by rw [ho.out, List.length_take, hS.out])
  gi_loopw [12, 13] (fun k i wr => ∃ kk ii : Nat, ii ≤ S.length ∧ i = .int .i64 (ii : Int) ∧ k = .int .i64 (kk : Int) ∧ Hid (kk = min (ahead8 S ii) most.toNat) ∧ wr = W1) (fun _ i _ => S.length - (intOf i).toNat)
  case atStart => exact ⟨0, 0, by omega, rfl, rfl, Lib.hid (by simp [ahead8, Rs.elems]), rfl⟩
  case round =>
    obtain ⟨kk, ii, hii, rfl, rfl, hkk, hwr⟩ := hrel
    subst hwr
    have qb := bl.cell
    by_cases hlt : ii < S.length
    · have hlti : (ii : Int) < (S.length : Int) := by omega
      have hi0 : (0 : Int) ≤ (ii : Int) := by omega
      by_cases hk : (kk : Int) < most
      · obtain ⟨sb', so', x1, x2, e, hx, hc⟩ := readsR_get RS ii hlt
        obtain ⟨rfl, rfl⟩ : sb = sb' ∧ so = so' := by cases e; exact ⟨rfl, rfl⟩
        clear e
        obtain ⟨c0, c1⟩ := hc wr X1
        have ok := Rs.canon_at HCS.out hlt
        rw [hx] at ok
        simp only [Rs.Ok, Rs.most] at ok
        obtain ⟨o1, o2, o3⟩ := ok
        have hA := ahead8_succ S ii hlt
        have hT := ahead8_le S ii hlt
        rw [hx] at hA
        simp only at hA
        replace hA := Lib.hid hA
        gi_wp2
        gi_loopw [12, 14] (fun k m wv => ∃ kk2 j : Nat, m = .int .i64 (x1 + (j : Int)) ∧ (j : Int) ≤ x2 - x1 + 1 ∧ k = .int .i64 (kk2 : Int) ∧ Hid (kk2 = min (ahead8 S ii + j) most.toNat) ∧ wv = wr) (fun _ m _ => (x2 + 1 - intOf m).toNat)
        case atStart => exact ⟨kk, 0, by simp, by omega, rfl, Lib.hid (by have := hkk.out; omega), rfl⟩
        case round =>
          obtain ⟨kk2, j, rfl, hj, rfl, hkk2, hwv⟩ := hrel
          subst hwv
          by_cases h1 : x1 + (j : Int) ≤ x2
          · by_cases h2 : (kk2 : Int) < most
            · have hlo : kk2 < o.length := by have e1 := hkk2.out; have e2 := hol.out; have e3 := hA.out; omega
              have hgi : ¬ (o.length : Int) ≤ (kk2 : Int) := by omega
              have hgl : (kk2 : Int) < (o.length : Int) := by omega
              have hg0 : (0 : Int) ≤ (kk2 : Int) := by omega
              obtain ⟨lb, lo, y, rfl, hy, hd⟩ := readsI_get RO kk2 hlo
              have d0 := hd _ X1
              have hyv : y = x1 + (j : Int) := by
                rw [← hy]
                have hk2 : kk2 = ahead8 S ii + j := by have e1 := hkk2.out; omega
                have h3 := ahead8_get S ii hlt j (by rw [hx]; simp only; omega) (by have e1 := hA.out; omega)
                rw [hx] at h3
                simp only at h3
                rw [← h3]
                have h4 := ho.out
                rw [hS.out] at h4
                subst h4
                subst hk2
                exact List.getElem_take
              subst hyv
              gi_wp2
              go_roundw
              case rel => exact ⟨kk2 + 1, j + 1, by go_num, by omega, by go_num, Lib.hid (by have e1 := hkk2.out; omega), by first | rfl | trivial⟩
              case measure => simp [intOf]; omega
            · gi_wp2
              go_roundw
              case rel => exact ⟨kk2, ii + 1, by omega, by go_num, rfl, Lib.hid (by have e1 := hkk2.out; have e3 := hA.out; omega), by first | rfl | trivial⟩
              case measure => simp [intOf]; omega
          · gi_wp2
            go_roundw
            case rel => exact ⟨kk2, ii + 1, by omega, by go_num, rfl, Lib.hid (by have e1 := hkk2.out; have e3 := hA.out; omega), by first | rfl | trivial⟩
            case measure => simp [intOf]; omega
      · have hkf : kk = o.length := by
          have := ahead8_top S ii
          have e1 := hkk.out
          have e2 := hol.out
          omega
        subst hkf
        clear hkk
        gi_wp2_with (refine ⟨trivial, ?_⟩; gi_at_call 17; refine (callsIn_wide.2 (all_any _ aa a.length ac rfl _)).mono ?_; rintro e w' ⟨rfl, rfl⟩)
        have c11 := (bl.alloc (.cells #[.int .i64 0] 3)).alloc (.cells #[.slice aa a.length ac] 22)
        have c15 := (hs1 ▸ Boxed.new wr 3 (.int .i64 0) : Boxed _ (w8.heap.size + 1) _ _).alloc (.cells #[.slice aa a.length ac] 22)
        have c2 := Boxed.new (wr.alloc (.cells #[.int .i64 0] 3)) 22 (.slice aa a.length ac)
        simp only [World.size_alloc, hs1] at c2
        have HS := ((XW _ X1).alloc (.cells #[.int .i64 0] 3)).alloc (.cells #[.slice aa a.length ac] 22)
        have hB0 : Below w8.heap.size w8 ((wr.alloc (.cells #[.int .i64 0] 3)).alloc (.cells #[.slice aa a.length ac] 22)) := (B1.alloc (by omega) _).alloc (by simp; omega) _
        refine wpIn_rangeFunc_ownG rfl (by omega) (gf := 29) (lb := #[.pointer (some ⟨w8.heap.size + 1 + 1, 0, none⟩)]) rfl trivial (enters_of Try.func29 (by kernel_rfl) rfl)
          (all_stops (6 - 1) (by omega) (w8.heap.size + 1 + 1) ha (by omega) _ (by simp; omega) HS c2.cell) KeepsRuns.trans KeepsRuns.put (Below.refl _ _) (fun _ => rfl)
          (fun pre W => (Boxed W w8.heap.size 31 (.slice la o.length lc) ∧ Boxed W (w8.heap.size + 1) 3 (.int .i64 (pre.length : Int)) ∧ pre.length ≤ o.length) ∧ Below w8.heap.size w8 W)
          (fun cd pre W => ((Boxed W w8.heap.size 31 (.slice la o.length lc) ∧ Boxed W (w8.heap.size + 1) 3 (.int .i64 (pre.dropLast.length : Int)) ∧ cd = .exit 4 ∧ pre.dropLast.length = o.length) ∧ Below w8.heap.size w8 W) ∨ (cd = .ret ∧ ∃ p x, pre = p ++ [x] ∧ ∃ h : p.length < o.length, o[p.length] ≠ x))
          (OwnFrom.and (fun s A B row hs hg hr => ⟨boxed_keep hs.1 hg hr, boxed_keep hs.2.1 hg hr, hs.2.2⟩) (ownFrom_below (Nat.le_refl _) (by simp; omega)))
          (fun cd s A B row hs hg hr => hs.elim (fun h => .inl ⟨⟨boxed_keep h.1.1 hg hr, boxed_keep h.1.2.1 hg hr, h.1.2.2⟩, ownFrom_below (β := List Int) (Nat.le_refl _) (by simp; omega) s A B row h.2 hg hr⟩) .inr)
          ⟨⟨c11, c15, Nat.zero_le _⟩, hB0⟩ ?acts ?assign ?body ?done ?stop
        case assign =>
          intro l x W K hK
          gi_wp2
          exact hK
        case body =>
          rintro l pre x W ⟨⟨b11, b15, hple⟩, hB⟩ hlt
          have q11 := b11.cell
          have q15 := b15.cell
          have f15 := b15.frozen
          have HXW : Sat X W := HX.keep fun k hk => hB.block k hk
          by_cases hlt2 : pre.length < o.length
          · have hgi : ¬ (o.length : Int) ≤ (pre.length : Int) := by omega
            have hgl : (pre.length : Int) < (o.length : Int) := by omega
            have hg0 : (0 : Int) ≤ (pre.length : Int) := by omega
            obtain ⟨lb, lo, y, rfl, hy, hd⟩ := readsI_get RO pre.length hlt2
            have d0 := hd W HXW
            by_cases hyx : y = x
            · subst hyx
              gi_wp2
              have e1 : ((pre ++ [y]).length : Int) = (pre.length : Int) + 1 := by simp
              refine ⟨(KeepsOthers.setCell W ⟨w8.heap.size + 1, 0, none⟩ _).from _, KeepsRuns.of_grown (grownBy_setCell' W (w8.heap.size + 1) _) (fun r e => by cases e; exact ⟨_, _, _, b15, by decide⟩), ⟨boxed_other b11 (by omega), ?_, ?_⟩, hB.setCell (p := ⟨w8.heap.size + 1, 0, none⟩) (by show w8.heap.size ≤ (w8.heap.size + 1); omega) _⟩
              · rw [e1]; exact b15.set _
              · simp; omega
            · have fr := (hbx W HXW).frozen; have qr := (hbx W HXW).cell
              gi_wp2
              exact ⟨(KeepsOthers.setCell W ⟨w.heap.size, 0, none⟩ _).from _, .inr ⟨rfl, pre, x, rfl, hlt2, by rw [hy]; exact hyx⟩⟩
          · have hgi : (o.length : Int) ≤ (pre.length : Int) := by omega
            gi_wp2
            exact ⟨(KeepsOthers.refl _).from _, .inl ⟨⟨b11, by rw [List.dropLast_concat]; exact b15, rfl, by rw [List.dropLast_concat]; omega⟩, hB⟩⟩
        case done =>
          rintro D ys W hD rfl ⟨⟨b11, b15, hple⟩, hB⟩ hK
          have hEl : (Rs.elems (Rs.norm a)).length = o.length := by rw [ho.out, List.length_take]; rw [ho.out, List.length_take] at hple; omega
          rw [hEl] at b15
          have q11 := b11.cell
          have q15 := b15.cell
          have HXW : Sat X W := HX.keep fun k hk => hB.block k hk
          have br := hbx W HXW
          have fr := br.frozen
          have qr := br.cell
          gi_wp2
          have hK' := (KeepsOthers.setCell W ⟨w.heap.size, 0, none⟩ (.bool true)).same D _ hK rfl
          have e0 : Boxed _ w.heap.size 4 (.bool true) := br.set (.bool true)
          have hD' : w.heap.size < D := by simp at hD; omega
          have z0 := (e0.kept (grownBy_putObj' _ D (.deferred none)) (fun e => by cases e; omega)).cell
          refine ⟨by simp, .inl ⟨_, _, rfl, run_takeDeferred hK', ?_⟩⟩
          refine ⟨.bool true, ?_, rfl, ((hB8.trans (hB.mono (by omega))).setCell (p := ⟨w.heap.size, 0, none⟩) (Nat.le_refl _) _).trans (belowK_b (w := w) (Nat.le_refl _) _ D _ _ (by omega) hK' rfl rfl)⟩
          simp [results, Try.results3, go_sem, z0]
        case stop =>
          rintro D cd pre W hD hpre (⟨⟨b11, b15, rfl, hlen⟩, hB⟩ | ⟨rfl, p, x, rfl, hp, hne⟩) hK
          · rw [hlen] at b15
            have q11 := b11.cell
            have q15 := b15.cell
            have HXW : Sat X W := HX.keep fun k hk => hB.block k hk
            have br := hbx W HXW
            have fr := br.frozen
            have qr := br.cell
            gi_wp2
            have hK' := (KeepsOthers.setCell W ⟨w.heap.size, 0, none⟩ (.bool true)).same D _ hK rfl
            have e0 : Boxed _ w.heap.size 4 (.bool true) := br.set (.bool true)
            have hD' : w.heap.size < D := by simp at hD; omega
            have z0 := (e0.kept (grownBy_putObj' _ D (.deferred none)) (fun e => by cases e; omega)).cell
            refine ⟨by simp, .inl ⟨_, _, rfl, run_takeDeferred hK', ?_⟩⟩
            refine ⟨.bool true, ?_, rfl, ((hB8.trans (hB.mono (by omega))).setCell (p := ⟨w.heap.size, 0, none⟩) (Nat.le_refl _) _).trans (belowK_b (w := w) (Nat.le_refl _) _ D _ _ (by omega) hK' rfl rfl)⟩
            simp [results, Try.results3, go_sem, z0]
          · exfalso
            apply hne
            have h1 := hpre.getElem (i := p.length) (by simp)
            rw [List.getElem_append_right (by omega)] at h1
            simp only [Nat.sub_self, List.getElem_cons_zero] at h1
            rw [h1]
            have h2 := ho.out
            subst h2
            exact List.getElem_take
    · have hge : ¬ (ii : Int) < (S.length : Int) := by omega
      have hkf : kk = o.length := by
        obtain rfl : ii = S.length := by omega
        rw [hkk.out, hol.out, ahead8_all]
        omega
      subst hkf
      clear hkk
      gi_wp2_with (refine ⟨trivial, ?_⟩; gi_at_call 17; refine (callsIn_wide.2 (all_any _ aa a.length ac rfl _)).mono ?_; rintro e w' ⟨rfl, rfl⟩)
      have c11 := (bl.alloc (.cells #[.int .i64 0] 3)).alloc (.cells #[.slice aa a.length ac] 22)
      have c15 := (hs1 ▸ Boxed.new wr 3 (.int .i64 0) : Boxed _ (w8.heap.size + 1) _ _).alloc (.cells #[.slice aa a.length ac] 22)
      have c2 := Boxed.new (wr.alloc (.cells #[.int .i64 0] 3)) 22 (.slice aa a.length ac)
      simp only [World.size_alloc, hs1] at c2
      have HS := ((XW _ X1).alloc (.cells #[.int .i64 0] 3)).alloc (.cells #[.slice aa a.length ac] 22)
      have hB0 : Below w8.heap.size w8 ((wr.alloc (.cells #[.int .i64 0] 3)).alloc (.cells #[.slice aa a.length ac] 22)) := (B1.alloc (by omega) _).alloc (by simp; omega) _
      refine wpIn_rangeFunc_ownG rfl (by omega) (gf := 29) (lb := #[.pointer (some ⟨w8.heap.size + 1 + 1, 0, none⟩)]) rfl trivial (enters_of Try.func29 (by kernel_rfl) rfl)
        (all_stops (6 - 1) (by omega) (w8.heap.size + 1 + 1) ha (by omega) _ (by simp; omega) HS c2.cell) KeepsRuns.trans KeepsRuns.put (Below.refl _ _) (fun _ => rfl)
        (fun pre W => (Boxed W w8.heap.size 31 (.slice la o.length lc) ∧ Boxed W (w8.heap.size + 1) 3 (.int .i64 (pre.length : Int)) ∧ pre.length ≤ o.length) ∧ Below w8.heap.size w8 W)
        (fun cd pre W => ((Boxed W w8.heap.size 31 (.slice la o.length lc) ∧ Boxed W (w8.heap.size + 1) 3 (.int .i64 (pre.dropLast.length : Int)) ∧ cd = .exit 4 ∧ pre.dropLast.length = o.length) ∧ Below w8.heap.size w8 W) ∨ (cd = .ret ∧ ∃ p x, pre = p ++ [x] ∧ ∃ h : p.length < o.length, o[p.length] ≠ x))
        (OwnFrom.and (fun s A B row hs hg hr => ⟨boxed_keep hs.1 hg hr, boxed_keep hs.2.1 hg hr, hs.2.2⟩) (ownFrom_below (Nat.le_refl _) (by simp; omega)))
        (fun cd s A B row hs hg hr => hs.elim (fun h => .inl ⟨⟨boxed_keep h.1.1 hg hr, boxed_keep h.1.2.1 hg hr, h.1.2.2⟩, ownFrom_below (β := List Int) (Nat.le_refl _) (by simp; omega) s A B row h.2 hg hr⟩) .inr)
        ⟨⟨c11, c15, Nat.zero_le _⟩, hB0⟩ ?actsb ?assign ?body ?done ?stop
      case assign =>
        intro l x W K hK
        gi_wp2
        exact hK
      case body =>
        rintro l pre x W ⟨⟨b11, b15, hple⟩, hB⟩ hlt
        have q11 := b11.cell
        have q15 := b15.cell
        have f15 := b15.frozen
        have HXW : Sat X W := HX.keep fun k hk => hB.block k hk
        by_cases hlt2 : pre.length < o.length
        · have hgi : ¬ (o.length : Int) ≤ (pre.length : Int) := by omega
          have hgl : (pre.length : Int) < (o.length : Int) := by omega
          have hg0 : (0 : Int) ≤ (pre.length : Int) := by omega
          obtain ⟨lb, lo, y, rfl, hy, hd⟩ := readsI_get RO pre.length hlt2
          have d0 := hd W HXW
          by_cases hyx : y = x
          · subst hyx
            gi_wp2
            have e1 : ((pre ++ [y]).length : Int) = (pre.length : Int) + 1 := by simp
            refine ⟨(KeepsOthers.setCell W ⟨w8.heap.size + 1, 0, none⟩ _).from _, KeepsRuns.of_grown (grownBy_setCell' W (w8.heap.size + 1) _) (fun r e => by cases e; exact ⟨_, _, _, b15, by decide⟩), ⟨boxed_other b11 (by omega), ?_, ?_⟩, hB.setCell (p := ⟨w8.heap.size + 1, 0, none⟩) (by show w8.heap.size ≤ (w8.heap.size + 1); omega) _⟩
            · rw [e1]; exact b15.set _
            · simp; omega
          · have fr := (hbx W HXW).frozen; have qr := (hbx W HXW).cell
            gi_wp2
            exact ⟨(KeepsOthers.setCell W ⟨w.heap.size, 0, none⟩ _).from _, .inr ⟨rfl, pre, x, rfl, hlt2, by rw [hy]; exact hyx⟩⟩
        · have hgi : (o.length : Int) ≤ (pre.length : Int) := by omega
          gi_wp2
          exact ⟨(KeepsOthers.refl _).from _, .inl ⟨⟨b11, by rw [List.dropLast_concat]; exact b15, rfl, by rw [List.dropLast_concat]; omega⟩, hB⟩⟩
      case done =>
        rintro D ys W hD rfl ⟨⟨b11, b15, hple⟩, hB⟩ hK
        have hEl : (Rs.elems (Rs.norm a)).length = o.length := by rw [ho.out, List.length_take]; rw [ho.out, List.length_take] at hple; omega
        rw [hEl] at b15
        have q11 := b11.cell
        have q15 := b15.cell
        have HXW : Sat X W := HX.keep fun k hk => hB.block k hk
        have br := hbx W HXW
        have fr := br.frozen
        have qr := br.cell
        gi_wp2
        have hK' := (KeepsOthers.setCell W ⟨w.heap.size, 0, none⟩ (.bool true)).same D _ hK rfl
        have e0 : Boxed _ w.heap.size 4 (.bool true) := br.set (.bool true)
        have hD' : w.heap.size < D := by simp at hD; omega
        have z0 := (e0.kept (grownBy_putObj' _ D (.deferred none)) (fun e => by cases e; omega)).cell
        refine ⟨by simp, .inl ⟨_, _, rfl, run_takeDeferred hK', ?_⟩⟩
        refine ⟨.bool true, ?_, rfl, ((hB8.trans (hB.mono (by omega))).setCell (p := ⟨w.heap.size, 0, none⟩) (Nat.le_refl _) _).trans (belowK_b (w := w) (Nat.le_refl _) _ D _ _ (by omega) hK' rfl rfl)⟩
        simp [results, Try.results3, go_sem, z0]
      case stop =>
        rintro D cd pre W hD hpre (⟨⟨b11, b15, rfl, hlen⟩, hB⟩ | ⟨rfl, p, x, rfl, hp, hne⟩) hK
        · rw [hlen] at b15
          have q11 := b11.cell
          have q15 := b15.cell
          have HXW : Sat X W := HX.keep fun k hk => hB.block k hk
          have br := hbx W HXW
          have fr := br.frozen
          have qr := br.cell
          gi_wp2
          have hK' := (KeepsOthers.setCell W ⟨w.heap.size, 0, none⟩ (.bool true)).same D _ hK rfl
          have e0 : Boxed _ w.heap.size 4 (.bool true) := br.set (.bool true)
          have hD' : w.heap.size < D := by simp at hD; omega
          have z0 := (e0.kept (grownBy_putObj' _ D (.deferred none)) (fun e => by cases e; omega)).cell
          refine ⟨by simp, .inl ⟨_, _, rfl, run_takeDeferred hK', ?_⟩⟩
          refine ⟨.bool true, ?_, rfl, ((hB8.trans (hB.mono (by omega))).setCell (p := ⟨w.heap.size, 0, none⟩) (Nat.le_refl _) _).trans (belowK_b (w := w) (Nat.le_refl _) _ D _ _ (by omega) hK' rfl rfl)⟩
          simp [results, Try.results3, go_sem, z0]
        · exfalso
          apply hne
          have h1 := hpre.getElem (i := p.length) (by simp)
          rw [List.getElem_append_right (by omega)] at h1
          simp only [Nat.sub_self, List.getElem_cons_zero] at h1
          rw [h1]
          have h2 := ho.out
          subst h2
          exact List.getElem_take
set_option maxRecDepth 100000 in
set_option maxHeartbeats 8000000 in
theorem runsAsk_much {w : World} {va : Value} {a : List Rn} (n most : Int) (ha : ReadsR (whole w) va a) (qa : (40 : Int) < (a.length : Int) ∨ (1000 : Int) < most) :
    Calls Try.prog 3 #[va, .int .i64 n, .int .i64 most] w fun e W' => e = .returned (.bool true) ∧ Below w.heap.size w W' := by
  obtain ⟨aa, ac, rfl, am⟩ := readsR_len ha
  have H0 := (Sat.all w).new (.cells #[.bool false] 4)
  have I0 := (Io.refl w).alloc (.cells #[.bool false] 4)
  by_cases q1 : (40 : Int) < (a.length : Int)
  · clear qa
    refine (callsIn_wide (n := 6)).1 ?_
    refine callsIn_of_wp_marks Try.func3 rfl trivial ?_ rfl
    simp only [Try.ntmps3, List.size_toArray, List.length_cons, List.length_nil, Nat.reduceAdd, Nat.reduceSub, Array.replicate_succ, Array.replicate_zero, List.push_toArray, List.append_toArray, List.nil_append, List.cons_append]
    gi_wp2_with (refine ⟨trivial, ?_⟩; gi_at_call 9; refine callsIn_wide.2 (works_any H0 ?_); intro w1 H1 I1; have br : Boxed w1 w.heap.size 4 (.bool false) := H1.left.at; have qr := br.cell; have fr := br.frozen)
    have e0 : Boxed _ w.heap.size 4 (.bool true) := br.set (.bool true)
    have hB1 : Below w.heap.size w w1 := (I0.trans I1).below H1.right
    have z0 := e0.cell
    refine ⟨.bool true, ?_, rfl, hB1.setCell (p := ⟨w.heap.size, 0, none⟩) (Nat.le_refl _) _⟩
    simp [results, Try.results3, go_sem, z0]
  · have q2 : (1000 : Int) < most := by omega
    clear qa
    refine (callsIn_wide (n := 6)).1 ?_
    refine callsIn_of_wp_marks Try.func3 rfl trivial ?_ rfl
    simp only [Try.ntmps3, List.size_toArray, List.length_cons, List.length_nil, Nat.reduceAdd, Nat.reduceSub, Array.replicate_succ, Array.replicate_zero, List.push_toArray, List.append_toArray, List.nil_append, List.cons_append]
    gi_wp2_with (refine ⟨trivial, ?_⟩; gi_at_call 9; refine callsIn_wide.2 (works_any H0 ?_); intro w1 H1 I1; have br : Boxed w1 w.heap.size 4 (.bool false) := H1.left.at; have qr := br.cell; have fr := br.frozen)
    have e0 : Boxed _ w.heap.size 4 (.bool true) := br.set (.bool true)
    have hB1 : Below w.heap.size w w1 := (I0.trans I1).below H1.right
    have z0 := e0.cell
    refine ⟨.bool true, ?_, rfl, hB1.setCell (p := ⟨w.heap.size, 0, none⟩) (Nat.le_refl _) _⟩
    simp [results, Try.results3, go_sem, z0]
set_option maxRecDepth 100000 in
set_option maxHeartbeats 4000000 in
theorem runsAsk_any {F : Asn} {w : World} {R : Ending → World → Prop} {a : List Rn} {va : Value} (n most : Int) (hv : ReadsR F va a) (H : Sat F w) (h : ∀ w', Sat F w' → Io w w' → R (.returned (.bool true)) w') : Calls Try.prog 3 #[va, .int .i64 n, .int .i64 most] w R := by
  have ha : ReadsR (whole w) va a := hv.imp fun w' hw => H.keep fun k hk => hw.was k hk
  suffices K : Calls Try.prog 3 #[va, .int .i64 n, .int .i64 most] w fun e W' => e = .returned (.bool true) ∧ Below w.heap.size w W' by
    refine K.mono ?_
    rintro e w' ⟨rfl, hb⟩
    exact h w' (H.keep fun k hk => hb.block k hk) ⟨hb.os, hb.tape, hb.output, hb.size⟩
  clear h
  by_cases q : ¬ (40 : Int) < (a.length : Int) ∧ ¬ (1000 : Int) < most
  · by_cases hz : Rs.norm a = []
    · exact runsAsk_nil n most ha q.1 q.2 hz
    · exact runsAsk_cons n most ha q.1 q.2 hz
  · exact runsAsk_much n most ha (by omega)
end Go.Proofs.Ytaekcmpeglagnaa
