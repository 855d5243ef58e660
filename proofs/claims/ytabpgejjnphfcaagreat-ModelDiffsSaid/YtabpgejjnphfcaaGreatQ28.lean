/-
  slices.BinarySearchFunc on a rising row of pairs, by its walk. It proves no statement by itself.
-/
import Derived.Test.YtabpgejjnphfcaaGreatQ27
import Derived.Test.YtabpgejjnphfcaaGreatQ18
namespace Go.Proofs.YtabpgejjnphfcaaGreat
open Go.RowKit
set_option linter.unusedSimpArgs false
set_option linter.unusedVariables false

section
variable {F : Asn} {w : World} {R : Ending → World → Prop} {l : List Pr} {v : Value}
set_option maxRecDepth 100000 in
set_option maxHeartbeats 4000000 in
theorem bsearch_any (hs : Eg.Srt l) (H : Sat (RowP v l * F) w) (hl : l.length ≤ 1000000) (p : Pr) {cn : Nat} {d : Bool} (hcn : Hid (cn = Eg.cnt p l)) (hd : Hid (d = decide (p ∈ l))) (h : ∀ w', Sat (RowP v l * F) w' → Io w w' → R (.returned (.tuple #[.int .i64 (cn : Int), .bool d])) w') :
    Calls Tryz.prog 99 #[v, .agg #[.int .i64 p.1, .int .i64 p.2], .func (.func 21) #[] #[]] w R := by
  have hv := readsP_row H hl
  obtain ⟨a, c, rfl, hm⟩ := readsP_len hv
  have HV := Lib.hid (fun k hk => readsP_get hv k hk)
  have HH := Lib.hid h
  have HS := Lib.hid hs
  clear h hv hs
  obtain ⟨p1, p2⟩ := p
  have HP := H.new (.cells #[.int .i64 p1, .int .i64 p2] 49)
  have IP := (Io.refl w).alloc (.cells #[.int .i64 p1, .int .i64 p2] 49)
  go_enter Tryz.func99, Tryz.ntmps99
  go_wp2_with fail
  generalize w.alloc (.cells #[.int .i64 p1, .int .i64 p2] 49) = w0 at *
  generalize w.heap.size = bp at *
  go_loopw [9, 10] (fun x y wr => ∃ lo hi : Nat, x = .int .i64 (lo : Int) ∧ y = .int .i64 (hi : Int) ∧ lo ≤ hi ∧ hi ≤ l.length ∧
    Hid ((∀ t (ht : t < l.length), t < lo → Eg.less l[t] (p1, p2) = true) ∧ ∀ t (ht : t < l.length), hi ≤ t → Eg.less l[t] (p1, p2) = false) ∧
    Sat (pts bp (.cells #[.int .i64 p1, .int .i64 p2] 49 (0, 0)) * (RowP (.slice a l.length c) l * F)) wr ∧ Io w wr) (fun x y _ => (intOf y - intOf x).toNat)
  case atStart => exact ⟨0, l.length, rfl, rfl, by omega, by omega, Lib.hid ⟨fun t ht h0 => absurd h0 (Nat.not_lt_zero _), fun t h1 h2 => by omega⟩, HP, IP⟩
  case round =>
    obtain ⟨lo, hi, rfl, rfl, b1, b2, hs, Hk, Ik⟩ := hrel
    clear HP IP
    obtain ⟨q0, q1⟩ := box_cells Hk
    by_cases hlt : lo < hi
    · have hlti : (lo : Int) < (hi : Int) := by omega
      obtain ⟨k, hk⟩ : ∃ k, k = (lo + hi) / 2 := ⟨_, rfl⟩
      have hk2 : ((lo : Int) + (hi : Int)) / 2 = (k : Int) := by omega
      have hkn : k < l.length := by omega
      have hkl : lo ≤ k ∧ k < hi := by omega
      have hki : (k : Int) < (l.length : Int) := by omega
      have hk0 : (0 : Int) ≤ (k : Int) := by omega
      obtain ⟨b, off, x1, x2, rfl, hx, hc⟩ := HV.out k hkn
      obtain ⟨c0, c1⟩ := hc wr Hk.right
      have HC := Lib.hid hc
      obtain ⟨y, hy⟩ : ∃ y, Hid (y = cmpP (x1, x2) (p1, p2)) := ⟨_, Lib.hid rfl⟩
      have kx := cmpP_lt (x1, x2) (p1, p2)
      rw [← hy.out] at kx
      have HX := Lib.hid hx
      have HK := Lib.hid hk
      clear hc hx hk
      by_cases hy0 : y < 0
      · have hs' : Hid ((∀ t (ht : t < l.length), t < k + 1 → Eg.less l[t] (p1, p2) = true) ∧ ∀ t (ht : t < l.length), hi ≤ t → Eg.less l[t] (p1, p2) = false) := Lib.hid ⟨fun t ht h1 => by
          by_cases e : t = k
          · subst e; rw [HX.out]; exact kx.1 hy0
          · exact Eg.less_trans ((List.pairwise_iff_getElem.1 HS.out) t k ht hkn (by omega)) (by rw [HX.out]; exact kx.1 hy0), hs.out.2⟩
        clear kx hs
        go_wp2_with fail
        go_region_held3 (fun W => W.cell? ⟨bp, 0, none⟩ = some (.int .i64 p1) ∧ W.cell? ⟨bp, 1, none⟩ = some (.int .i64 p2) ∧ W.cell? ⟨b, off + k * 2, none⟩ = some (.int .i64 x1) ∧ W.cell? ⟨b, off + k * 2 + 1, none⟩ = some (.int .i64 x2)) (first | exact ⟨q0, q1, c0, c1⟩ | exact ⟨z0, z1, z2⟩) ((go_at_call 21; with_reducible refine cmp_d (x1, x2) (p1, p2) hy Hk.drew ?_; intro w4 H4 I4; obtain ⟨z0, z1⟩ := box_cells H4; have z2 := HC.out w4 H4.right))
        go_wp2_with fail
        go_roundw
        case rel => exact ⟨k + 1, hi, by go_num, rfl, by omega, b2, hs', H4, Ik.drew.trans I4⟩
        case measure => simp [intOf]; omega
      · have hs' : Hid ((∀ t (ht : t < l.length), t < lo → Eg.less l[t] (p1, p2) = true) ∧ ∀ t (ht : t < l.length), k ≤ t → Eg.less l[t] (p1, p2) = false) := Lib.hid ⟨hs.out.1, fun t ht h1 => by
          have kn : Eg.less (x1, x2) (p1, p2) = false := by
            cases e : Eg.less (x1, x2) (p1, p2) with
            | true => exact absurd (kx.2 e) hy0
            | false => rfl
          by_cases e : t = k
          · subst e; rw [HX.out]; exact kn
          · have g := (List.pairwise_iff_getElem.1 HS.out) k t hkn ht (by omega)
            rw [HX.out] at g
            cases e2 : Eg.less l[t] (p1, p2) with
            | true => rw [Eg.less_trans g e2] at kn; cases kn
            | false => rfl⟩
        clear kx hs
        go_wp2_with fail
        go_region_held3 (fun W => W.cell? ⟨bp, 0, none⟩ = some (.int .i64 p1) ∧ W.cell? ⟨bp, 1, none⟩ = some (.int .i64 p2) ∧ W.cell? ⟨b, off + k * 2, none⟩ = some (.int .i64 x1) ∧ W.cell? ⟨b, off + k * 2 + 1, none⟩ = some (.int .i64 x2)) (first | exact ⟨q0, q1, c0, c1⟩ | exact ⟨z0, z1, z2⟩) ((go_at_call 21; with_reducible refine cmp_d (x1, x2) (p1, p2) hy Hk.drew ?_; intro w4 H4 I4; obtain ⟨z0, z1⟩ := box_cells H4; have z2 := HC.out w4 H4.right))
        go_wp2_with fail
        go_roundw
        case rel => exact ⟨lo, k, rfl, rfl, by omega, by omega, hs', H4, Ik.drew.trans I4⟩
        case measure => simp [intOf]; omega
    · obtain rfl : lo = hi := by omega
      have hge : ¬ (lo : Int) < (lo : Int) := by omega
      have he : cn = lo := by rw [hcn.out]; exact (Eg.cnt_unique HS.out b2 (fun j hl' h1 => hs.out.1 j hl' h1) (fun j hl' h1 => hs.out.2 j hl' h1)).symm
      subst he
      have ht := Eg.there_iff (p := (p1, p2)) HS.out
      rw [← hcn.out] at ht
      by_cases hin : cn < l.length
      · have hini : (cn : Int) < (l.length : Int) := by omega
        have hc00 : (0 : Int) ≤ (cn : Int) := by omega
        obtain ⟨b, off, x1, x2, rfl, hx, hc⟩ := HV.out cn hin
        obtain ⟨c0, c1⟩ := hc wr Hk.right
        have HC := Lib.hid hc
        obtain ⟨y, hy⟩ : ∃ y, Hid (y = cmpP (x1, x2) (p1, p2)) := ⟨_, Lib.hid rfl⟩
        have kx := cmpP_zero (x1, x2) (p1, p2)
        rw [← hy.out, ← hx] at kx
        have hdy : (y == 0) = d := by
          rw [hd.out, Bool.eq_iff_iff, decide_eq_true_eq, beq_iff_eq, kx, ht]
          exact ⟨fun e => ⟨hin, e⟩, fun ⟨_, e⟩ => e⟩
        clear kx hs hc hx ht
        go_wp2_with fail
        go_region_held3 (fun W => W.cell? ⟨bp, 0, none⟩ = some (.int .i64 p1) ∧ W.cell? ⟨bp, 1, none⟩ = some (.int .i64 p2) ∧ W.cell? ⟨b, off + cn * 2, none⟩ = some (.int .i64 x1) ∧ W.cell? ⟨b, off + cn * 2 + 1, none⟩ = some (.int .i64 x2)) (first | exact ⟨q0, q1, c0, c1⟩ | exact ⟨z0, z1, z2⟩) ((go_at_call 21; with_reducible refine cmp_d (x1, x2) (p1, p2) hy Hk.drew ?_; intro w4 H4 I4; obtain ⟨z0, z1⟩ := box_cells H4; have z2 := HC.out w4 H4.right))
        go_wp2_with fail
        exact HH.out _ H4.right (Ik.drew.trans I4)
      · have hge2 : ¬ (cn : Int) < (l.length : Int) := by omega
        have hdf : d = false := by
          rw [hd.out]
          exact decide_eq_false fun k => hin (ht.1 k).1
        subst hdf
        have Hn := fun n => Hk.drewN n
        have In := fun n => Ik.drewN n
        clear ht hs
        have hdec : decide ((cn : Int) < (l.length : Int)) = false := decide_eq_false hge2
        go_wp2_with fail
        go_quiet (fail)
        go_wp2_with fail
        exact HH.out _ (Hn _).right (In _)
end
end Go.Proofs.YtabpgejjnphfcaaGreat
