/-
  Two rising lists gone through (merge), by its walk, over whatever is done with each pair. It proves no statement by itself.
-/
import Derived.Test.YtmacannchaalaaaE3K
import Derived.Test.YtmacannchaalaaaE3Q
namespace Go.Proofs.Ytmacannchaalaaa
open Go.RowKit
set_option linter.unusedSimpArgs false
set_option linter.unusedVariables false

theorem Sat.grow {F : Asn} {w : World} (H : Sat F w) (q : Nat) (os : Array Obj) : Sat F (Go.Sort.grow (w.drewN q) os) := by
  refine H.keep fun k hk => ?_
  simp only [Go.Sort.grow, Array.getElem?_append]
  rw [if_pos (show k < (w.drewN q).heap.size from hk)]
  rfl
theorem Io.grow (w : World) (q : Nat) (os : Array Obj) : Io w (Go.Sort.grow (w.drewN q) os) := ⟨rfl, rfl, rfl, by simp [Go.Sort.grow, World.drewN]⟩
/-- How many elements a slice value has. -/
def vlen : Value → Nat
  | .slice _ n _ => n
  | _ => 0
/-- .. and no more than its room. -/
def vfit : Value → Prop
  | .slice _ n c => n ≤ c
  | _ => False
theorem vfit_row {F : Asn} {w : World} {v : Value} {l : List Pr} (H : Sat (RowP v l * F) w) : vfit v := by
  obtain ⟨hx, ⟨rfl, h0, _⟩ | ⟨g, cap, cur, rfl, h2, _⟩⟩ := sat_row.1 H
  · exact Nat.le_refl _
  · exact h2
theorem readsP_tail {F : Asn} {b off n c : Nat} {x : Pr} {l : List Pr} (h : ReadsP F (.slice (some ⟨b, off, none⟩) n c) (x :: l)) (o' : Nat) (ho : l ≠ [] → o' = off + 2) (c' : Nat) : ReadsP F (.slice (some ⟨b, o', none⟩) (n - 1) c') l := by
  obtain ⟨a0, c0, h1, h2, h3⟩ := h
  cases h1
  refine ⟨_, c', by simp, by simp at h2; omega, .inr ⟨b, o', rfl, ?_⟩⟩
  rcases h3 with h3 | ⟨b', off', e, h3⟩
  · cases h3
  · cases e
    cases l with
    | nil => intro w hw j u hu; simp [pv] at hu
    | cons y l =>
      intro w hw j u hu
      have := h3 w hw (j + 2) u (by rw [show pv (x :: y :: l) = [.int .i64 x.1, .int .i64 x.2] ++ pv (y :: l) from rfl, List.getElem?_append_right (by simp)]; simpa using hu)
      rw [ho (by simp), show off + 2 + j = off + (j + 2) from by omega]
      exact this
namespace Eg
theorem mrg_len (a b : List Pr) : (mrg a b).length ≤ a.length + b.length := by
  fun_induction mrg a b <;> simp_all <;> omega
end Eg
section
variable {F : Asn} {w : World} {R : Ending → World → Prop}
theorem cmp_d (a b : Pr) {c : Int} (hc : Hid (c = cmpP a b)) (H : Sat F w) (h : ∀ w', Sat F w' → Io w w' → R (.returned (.int .i64 c)) w') :
    Calls Try.prog 18 #[.agg #[.int .i64 a.1, .int .i64 a.2], .agg #[.int .i64 b.1, .int .i64 b.2]] w R := by
  refine (cmp_world a b w).mono ?_
  rintro e w' ⟨rfl, q, os, rfl⟩
  rw [← hc.out]
  exact h _ (H.grow q os) (Io.grow w q os)
set_option maxRecDepth 100000 in
set_option maxHeartbeats 4000000 in
theorem merge_any {A : List (Pr × Bool × Bool) → Asn} {va vb : Value} {la lb : List Pr} (ha : ReadsP F va la) (fa : vfit va) (hb : ReadsP F vb lb) (fb : vfit vb) (g : Nat) (cb : Array Value) (eg : ∀ args w, (callFunc g args).run Try.prog w = .ok (.enter g args) w)
    (hy : ∀ (m : List (Pr × Bool × Bool)) (p : Pr) (o t : Bool) (w : World) (R : Ending → World → Prop), m.length ≤ la.length + lb.length → Sat (A m * F) w → (∀ w', Sat (A (m ++ [(p, o, t)]) * F) w' → Io w w' → R (.returned (.tuple #[])) w') →
      Calls Try.prog g (#[.agg #[.int .i64 p.1, .int .i64 p.2], .bool o, .bool t] ++ cb) w R)
    (H : Sat (A [] * F) w) (h : ∀ w', Sat (A (Eg.mrg la lb) * F) w' → Io w w' → R (.returned (.tuple #[])) w') :
    Calls Try.prog 42 #[va, vb, .func (.func 18) #[] #[], .func (.func g) #[] cb] w R := by
  have HH := Lib.hid h
  have HY := Lib.hid hy
  have HA := Lib.hid ha
  have HB := Lib.hid hb
  clear h hy ha hb
  go_enter Try.func42, Try.ntmps42
  go_wp2_with fail
  go_loopw [0, 1] (fun x y wr => ∃ (l1 l2 : List Pr) (m : List (Pr × Bool × Bool)), Hid (ReadsP F x l1) ∧ Hid (ReadsP F y l2) ∧ vfit x ∧ vfit y ∧ Hid (m ++ Eg.mrg l1 l2 = Eg.mrg la lb) ∧ Sat (A m * F) wr ∧ Io w wr) (fun x y _ => vlen x + vlen y)
  case atStart => exact ⟨la, lb, [], HA, HB, fa, fb, Lib.hid rfl, H, Io.refl _⟩
  case round =>
    obtain ⟨l1, l2, m, h1, h2, f1, f2, hs, Hk, Ik⟩ := hrel
    clear H HA HB fa fb
    obtain ⟨a1, c1, rfl, n1⟩ := readsP_len h1.out
    obtain ⟨a2, c2, rfl, n2⟩ := readsP_len h2.out
    simp only [vfit] at f1 f2
    have HM : Hid (m.length ≤ la.length + lb.length) := Lib.hid (by
      have e := congrArg List.length hs.out
      have := Eg.mrg_len la lb
      rw [List.length_append] at e
      omega)
    cases l1 with
    | nil =>
      cases l2 with
      | nil =>
        have hm : Hid (m = Eg.mrg la lb) := Lib.hid (by rw [← hs.out]; simp [Eg.mrg])
        go_wp2_with fail
        rw [hm.out] at Hk
        go_end0
        exact HH.out _ Hk Ik
      | cons y l2 =>
        obtain ⟨b2, o2, y1, y2, rfl, hy, hc⟩ := readsP_get h2.out 0 (by simp)
        obtain ⟨d0, d1⟩ := hc wr Hk.right
        obtain rfl : y = (y1, y2) := hy
        have hm : Hid (m ++ [((y1, y2), false, true)] ++ Eg.mrg [] l2 = Eg.mrg la lb) := Lib.hid (by rw [← hs.out, Eg.mrg]; simp)
        generalize hN2 : ((y1, y2) :: l2).length = N2 at *
        have p2 : (0 : Int) < (N2 : Int) := by simp at hN2; omega
        have q2 : ¬ (N2 : Int) = 0 := by omega
        have p2n : 0 < N2 := by omega
        have L2 := Lib.hid (show N2 = l2.length + 1 from by simp at hN2; omega)
        clear hN2
        have F1 := Lib.hid f1
        have F2 := Lib.hid f2
        clear hc hs f1 f2
        simp only [Nat.zero_mul, Nat.add_zero] at d0 d1
        by_cases hc2 : c2 = 1
        · go_wp2_with (go_at_fn g; refine HY.out m (y1, y2) false true _ _ HM.out Hk ?_; intro w5 H5 I5)
          go_roundw
          case rel => exact ⟨[], l2, m ++ [((y1, y2), false, true)], h1, Lib.hid (readsP_tail h2.out o2 (fun h => absurd (List.eq_nil_of_length_eq_zero (by first | (have := F1.out; have := F2.out; have := L1.out; have := L2.out; omega) | (have := F1.out; have := F2.out; have := L1.out; have : ([] : List Pr).length = 0 := rfl; omega) | (have := F1.out; have := F2.out; have := L2.out; have : ([] : List Pr).length = 0 := rfl; omega))) h) _), F1.out, by simp only [vfit]; first | (have := F1.out; have := F2.out; have := L1.out; have := L2.out; omega) | (have := F1.out; have := F2.out; have := L1.out; have : ([] : List Pr).length = 0 := rfl; omega) | (have := F1.out; have := F2.out; have := L2.out; have : ([] : List Pr).length = 0 := rfl; omega), hm, H5, Ik.trans I5⟩
          case measure => simp only [vlen]; first | (have := F1.out; have := F2.out; have := L1.out; have := L2.out; omega) | (have := F1.out; have := F2.out; have := L1.out; have : ([] : List Pr).length = 0 := rfl; omega) | (have := F1.out; have := F2.out; have := L2.out; have : ([] : List Pr).length = 0 := rfl; omega)
        · go_wp2_with (go_at_fn g; refine HY.out m (y1, y2) false true _ _ HM.out Hk ?_; intro w5 H5 I5)
          go_roundw
          case rel => exact ⟨[], l2, m ++ [((y1, y2), false, true)], h1, Lib.hid (readsP_tail h2.out (o2 + 2) (fun _ => rfl) _), F1.out, by simp only [vfit]; first | (have := F1.out; have := F2.out; have := L1.out; have := L2.out; omega) | (have := F1.out; have := F2.out; have := L1.out; have : ([] : List Pr).length = 0 := rfl; omega) | (have := F1.out; have := F2.out; have := L2.out; have : ([] : List Pr).length = 0 := rfl; omega), hm, H5, Ik.trans I5⟩
          case measure => simp only [vlen]; first | (have := F1.out; have := F2.out; have := L1.out; have := L2.out; omega) | (have := F1.out; have := F2.out; have := L1.out; have : ([] : List Pr).length = 0 := rfl; omega) | (have := F1.out; have := F2.out; have := L2.out; have : ([] : List Pr).length = 0 := rfl; omega)
    | cons x l1 =>
      obtain ⟨b1, o1, x1, x2, rfl, hx, hcx⟩ := readsP_get h1.out 0 (by simp)
      obtain ⟨e0, e1⟩ := hcx wr Hk.right
      obtain rfl : x = (x1, x2) := hx
      simp only [Nat.zero_mul, Nat.add_zero] at e0 e1 hcx
      generalize hN1 : ((x1, x2) :: l1).length = N1 at *
      have p1 : (0 : Int) < (N1 : Int) := by simp at hN1; omega
      have q1 : ¬ (N1 : Int) = 0 := by omega
      have p1n : 0 < N1 := by omega
      have L1 := Lib.hid (show N1 = l1.length + 1 from by simp at hN1; omega)
      clear hN1
      cases l2 with
      | nil =>
        have hm : Hid (m ++ [((x1, x2), true, false)] ++ Eg.mrg l1 [] = Eg.mrg la lb) := Lib.hid (by rw [← hs.out, Eg.mrg]; simp)
        have F1 := Lib.hid f1
        have F2 := Lib.hid f2
        clear hcx hs f1 f2
        by_cases hc1 : c1 = 1
        · go_wp2_with (go_at_fn g; refine HY.out m (x1, x2) true false _ _ HM.out Hk ?_; intro w5 H5 I5)
          go_roundw
          case rel => exact ⟨l1, [], m ++ [((x1, x2), true, false)], Lib.hid (readsP_tail h1.out o1 (fun h => absurd (List.eq_nil_of_length_eq_zero (by first | (have := F1.out; have := F2.out; have := L1.out; have := L2.out; omega) | (have := F1.out; have := F2.out; have := L1.out; have : ([] : List Pr).length = 0 := rfl; omega) | (have := F1.out; have := F2.out; have := L2.out; have : ([] : List Pr).length = 0 := rfl; omega))) h) _), h2, by simp only [vfit]; first | (have := F1.out; have := F2.out; have := L1.out; have := L2.out; omega) | (have := F1.out; have := F2.out; have := L1.out; have : ([] : List Pr).length = 0 := rfl; omega) | (have := F1.out; have := F2.out; have := L2.out; have : ([] : List Pr).length = 0 := rfl; omega), F2.out, hm, H5, Ik.trans I5⟩
          case measure => simp only [vlen]; first | (have := F1.out; have := F2.out; have := L1.out; have := L2.out; omega) | (have := F1.out; have := F2.out; have := L1.out; have : ([] : List Pr).length = 0 := rfl; omega) | (have := F1.out; have := F2.out; have := L2.out; have : ([] : List Pr).length = 0 := rfl; omega)
        · go_wp2_with (go_at_fn g; refine HY.out m (x1, x2) true false _ _ HM.out Hk ?_; intro w5 H5 I5)
          go_roundw
          case rel => exact ⟨l1, [], m ++ [((x1, x2), true, false)], Lib.hid (readsP_tail h1.out (o1 + 2) (fun _ => rfl) _), h2, by simp only [vfit]; first | (have := F1.out; have := F2.out; have := L1.out; have := L2.out; omega) | (have := F1.out; have := F2.out; have := L1.out; have : ([] : List Pr).length = 0 := rfl; omega) | (have := F1.out; have := F2.out; have := L2.out; have : ([] : List Pr).length = 0 := rfl; omega), F2.out, hm, H5, Ik.trans I5⟩
          case measure => simp only [vlen]; first | (have := F1.out; have := F2.out; have := L1.out; have := L2.out; omega) | (have := F1.out; have := F2.out; have := L1.out; have : ([] : List Pr).length = 0 := rfl; omega) | (have := F1.out; have := F2.out; have := L2.out; have : ([] : List Pr).length = 0 := rfl; omega)
      | cons y l2 =>
        obtain ⟨b2, o2, y1, y2, rfl, hy, hcy⟩ := readsP_get h2.out 0 (by simp)
        obtain rfl : y = (y1, y2) := hy
        simp only [Nat.zero_mul, Nat.add_zero] at hcy
        obtain ⟨d0, d1⟩ := hcy wr Hk.right
        generalize hN2 : ((y1, y2) :: l2).length = N2 at *
        have p2 : (0 : Int) < (N2 : Int) := by simp at hN2; omega
        have q2 : ¬ (N2 : Int) = 0 := by omega
        have p2n : 0 < N2 := by omega
        have L2 := Lib.hid (show N2 = l2.length + 1 from by simp at hN2; omega)
        clear hN2
        have HX := Lib.hid hcx
        have HYC := Lib.hid hcy
        obtain ⟨c, hc⟩ : ∃ c, Hid (c = cmpP (x1, x2) (y1, y2)) := ⟨_, Lib.hid rfl⟩
        have k1 := cmpP_lt (x1, x2) (y1, y2)
        have k2 := cmpP_gt (x1, x2) (y1, y2)
        have k3 := cmpP_zero (x1, x2) (y1, y2)
        rw [← hc.out] at k1 k2 k3
        have em := Eg.mrg.eq_4 (x1, x2) l1 (y1, y2) l2
        have F1 := Lib.hid f1
        have F2 := Lib.hid f2
        clear hcx hcy f1 f2
        by_cases hlt : c < 0
        · have hm : Hid (m ++ [((x1, x2), true, false)] ++ Eg.mrg l1 ((y1, y2) :: l2) = Eg.mrg la lb) := Lib.hid (by rw [← hs.out, em, if_pos (k1.1 hlt)]; simp)
          clear k1 k2 k3 em hs
          go_wp2_with fail
          go_region_held3 (fun W => W.cell? ⟨b1, o1, none⟩ = some (.int .i64 x1) ∧ W.cell? ⟨b1, o1 + 1, none⟩ = some (.int .i64 x2) ∧ W.cell? ⟨b2, o2, none⟩ = some (.int .i64 y1) ∧ W.cell? ⟨b2, o2 + 1, none⟩ = some (.int .i64 y2)) (first | exact ⟨e0, e1, d0, d1⟩ | exact ⟨z0, z1, z2, z3⟩) ((go_at_call 18; with_reducible refine cmp_d (x1, x2) (y1, y2) hc Hk.drew ?_; intro w4 H4 I4; obtain ⟨z0, z1⟩ := HX.out w4 H4.right; obtain ⟨z2, z3⟩ := HYC.out w4 H4.right))
          clear e0 e1 d0 d1
          by_cases hc1 : c1 = 1
          · go_wp2_with (go_at_fn g; refine HY.out m (x1, x2) true false _ _ HM.out H4 ?_; intro w5 H5 I5)
            go_roundw
            case rel => exact ⟨l1, (y1, y2) :: l2, m ++ [((x1, x2), true, false)], Lib.hid (readsP_tail h1.out o1 (fun h => absurd (List.eq_nil_of_length_eq_zero (by first | (have := F1.out; have := F2.out; have := L1.out; have := L2.out; omega) | (have := F1.out; have := F2.out; have := L1.out; have : ([] : List Pr).length = 0 := rfl; omega) | (have := F1.out; have := F2.out; have := L2.out; have : ([] : List Pr).length = 0 := rfl; omega))) h) _), h2, by simp only [vfit]; first | (have := F1.out; have := F2.out; have := L1.out; have := L2.out; omega) | (have := F1.out; have := F2.out; have := L1.out; have : ([] : List Pr).length = 0 := rfl; omega) | (have := F1.out; have := F2.out; have := L2.out; have : ([] : List Pr).length = 0 := rfl; omega), F2.out, hm, H5, (Ik.drew.trans I4).trans I5⟩
            case measure => simp only [vlen]; first | (have := F1.out; have := F2.out; have := L1.out; have := L2.out; omega) | (have := F1.out; have := F2.out; have := L1.out; have : ([] : List Pr).length = 0 := rfl; omega) | (have := F1.out; have := F2.out; have := L2.out; have : ([] : List Pr).length = 0 := rfl; omega)
          · go_wp2_with (go_at_fn g; refine HY.out m (x1, x2) true false _ _ HM.out H4 ?_; intro w5 H5 I5)
            go_roundw
            case rel => exact ⟨l1, (y1, y2) :: l2, m ++ [((x1, x2), true, false)], Lib.hid (readsP_tail h1.out (o1 + 2) (fun _ => rfl) _), h2, by simp only [vfit]; first | (have := F1.out; have := F2.out; have := L1.out; have := L2.out; omega) | (have := F1.out; have := F2.out; have := L1.out; have : ([] : List Pr).length = 0 := rfl; omega) | (have := F1.out; have := F2.out; have := L2.out; have : ([] : List Pr).length = 0 := rfl; omega), F2.out, hm, H5, (Ik.drew.trans I4).trans I5⟩
            case measure => simp only [vlen]; first | (have := F1.out; have := F2.out; have := L1.out; have := L2.out; omega) | (have := F1.out; have := F2.out; have := L1.out; have : ([] : List Pr).length = 0 := rfl; omega) | (have := F1.out; have := F2.out; have := L2.out; have : ([] : List Pr).length = 0 := rfl; omega)
        · by_cases hgt : 0 < c
          · have hn : ¬ Eg.less (x1, x2) (y1, y2) = true := fun h => hlt (k1.2 h)
            have hm : Hid (m ++ [((y1, y2), false, true)] ++ Eg.mrg ((x1, x2) :: l1) l2 = Eg.mrg la lb) := Lib.hid (by rw [← hs.out, em, if_neg hn, if_pos (k2.1 hgt)]; simp)
            clear k1 k2 k3 em hs hn
            go_wp2_with fail
            go_region_held3 (fun W => W.cell? ⟨b1, o1, none⟩ = some (.int .i64 x1) ∧ W.cell? ⟨b1, o1 + 1, none⟩ = some (.int .i64 x2) ∧ W.cell? ⟨b2, o2, none⟩ = some (.int .i64 y1) ∧ W.cell? ⟨b2, o2 + 1, none⟩ = some (.int .i64 y2)) (first | exact ⟨e0, e1, d0, d1⟩ | exact ⟨z0, z1, z2, z3⟩) ((go_at_call 18; with_reducible refine cmp_d (x1, x2) (y1, y2) hc Hk.drew ?_; intro w4 H4 I4; obtain ⟨z0, z1⟩ := HX.out w4 H4.right; obtain ⟨z2, z3⟩ := HYC.out w4 H4.right))
            clear e0 e1 d0 d1
            by_cases hc2 : c2 = 1
            · go_wp2_with (go_at_fn g; refine HY.out m (y1, y2) false true _ _ HM.out H4 ?_; intro w5 H5 I5)
              go_roundw
              case rel => exact ⟨(x1, x2) :: l1, l2, m ++ [((y1, y2), false, true)], h1, Lib.hid (readsP_tail h2.out o2 (fun h => absurd (List.eq_nil_of_length_eq_zero (by first | (have := F1.out; have := F2.out; have := L1.out; have := L2.out; omega) | (have := F1.out; have := F2.out; have := L1.out; have : ([] : List Pr).length = 0 := rfl; omega) | (have := F1.out; have := F2.out; have := L2.out; have : ([] : List Pr).length = 0 := rfl; omega))) h) _), F1.out, by simp only [vfit]; first | (have := F1.out; have := F2.out; have := L1.out; have := L2.out; omega) | (have := F1.out; have := F2.out; have := L1.out; have : ([] : List Pr).length = 0 := rfl; omega) | (have := F1.out; have := F2.out; have := L2.out; have : ([] : List Pr).length = 0 := rfl; omega), hm, H5, (Ik.drew.trans I4).trans I5⟩
              case measure => simp only [vlen]; first | (have := F1.out; have := F2.out; have := L1.out; have := L2.out; omega) | (have := F1.out; have := F2.out; have := L1.out; have : ([] : List Pr).length = 0 := rfl; omega) | (have := F1.out; have := F2.out; have := L2.out; have : ([] : List Pr).length = 0 := rfl; omega)
            · go_wp2_with (go_at_fn g; refine HY.out m (y1, y2) false true _ _ HM.out H4 ?_; intro w5 H5 I5)
              go_roundw
              case rel => exact ⟨(x1, x2) :: l1, l2, m ++ [((y1, y2), false, true)], h1, Lib.hid (readsP_tail h2.out (o2 + 2) (fun _ => rfl) _), F1.out, by simp only [vfit]; first | (have := F1.out; have := F2.out; have := L1.out; have := L2.out; omega) | (have := F1.out; have := F2.out; have := L1.out; have : ([] : List Pr).length = 0 := rfl; omega) | (have := F1.out; have := F2.out; have := L2.out; have : ([] : List Pr).length = 0 := rfl; omega), hm, H5, (Ik.drew.trans I4).trans I5⟩
              case measure => simp only [vlen]; first | (have := F1.out; have := F2.out; have := L1.out; have := L2.out; omega) | (have := F1.out; have := F2.out; have := L1.out; have : ([] : List Pr).length = 0 := rfl; omega) | (have := F1.out; have := F2.out; have := L2.out; have : ([] : List Pr).length = 0 := rfl; omega)
          · have h0 : c = 0 := by omega
            have hn : ¬ Eg.less (x1, x2) (y1, y2) = true := fun h => hlt (k1.2 h)
            have hn2 : ¬ Eg.less (y1, y2) (x1, x2) = true := fun h => hgt (k2.2 h)
            have hm : Hid (m ++ [((x1, x2), true, true)] ++ Eg.mrg l1 l2 = Eg.mrg la lb) := Lib.hid (by rw [← hs.out, em, if_neg hn, if_neg hn2]; simp)
            clear k1 k2 k3 em hs hn hn2
            subst h0
            clear hlt hgt
            go_wp2_with fail
            go_region_held3 (fun W => W.cell? ⟨b1, o1, none⟩ = some (.int .i64 x1) ∧ W.cell? ⟨b1, o1 + 1, none⟩ = some (.int .i64 x2) ∧ W.cell? ⟨b2, o2, none⟩ = some (.int .i64 y1) ∧ W.cell? ⟨b2, o2 + 1, none⟩ = some (.int .i64 y2)) (first | exact ⟨e0, e1, d0, d1⟩ | exact ⟨z0, z1, z2, z3⟩) ((go_at_call 18; with_reducible refine cmp_d (x1, x2) (y1, y2) hc Hk.drew ?_; intro w4 H4 I4; obtain ⟨z0, z1⟩ := HX.out w4 H4.right; obtain ⟨z2, z3⟩ := HYC.out w4 H4.right))
            clear e0 e1 d0 d1
            by_cases hc1 : c1 = 1
            · by_cases hc2 : c2 = 1
              · go_wp2_with (go_at_fn g; refine HY.out m (x1, x2) true true _ _ HM.out H4 ?_; intro w5 H5 I5)
                go_quiet (fail)
                go_wp2_with fail
                go_roundw
                case rel => exact ⟨l1, l2, m ++ [((x1, x2), true, true)], Lib.hid (readsP_tail h1.out o1 (fun h => absurd (List.eq_nil_of_length_eq_zero (by first | (have := F1.out; have := F2.out; have := L1.out; have := L2.out; omega) | (have := F1.out; have := F2.out; have := L1.out; have : ([] : List Pr).length = 0 := rfl; omega) | (have := F1.out; have := F2.out; have := L2.out; have : ([] : List Pr).length = 0 := rfl; omega))) h) _), Lib.hid (readsP_tail h2.out o2 (fun h => absurd (List.eq_nil_of_length_eq_zero (by first | (have := F1.out; have := F2.out; have := L1.out; have := L2.out; omega) | (have := F1.out; have := F2.out; have := L1.out; have : ([] : List Pr).length = 0 := rfl; omega) | (have := F1.out; have := F2.out; have := L2.out; have : ([] : List Pr).length = 0 := rfl; omega))) h) _), by simp only [vfit]; first | (have := F1.out; have := F2.out; have := L1.out; have := L2.out; omega) | (have := F1.out; have := F2.out; have := L1.out; have : ([] : List Pr).length = 0 := rfl; omega) | (have := F1.out; have := F2.out; have := L2.out; have : ([] : List Pr).length = 0 := rfl; omega), by simp only [vfit]; first | (have := F1.out; have := F2.out; have := L1.out; have := L2.out; omega) | (have := F1.out; have := F2.out; have := L1.out; have : ([] : List Pr).length = 0 := rfl; omega) | (have := F1.out; have := F2.out; have := L2.out; have : ([] : List Pr).length = 0 := rfl; omega), hm, H5.drewN _, ((Ik.drew.trans I4).trans I5).drewN _⟩
                case measure => simp only [vlen]; first | (have := F1.out; have := F2.out; have := L1.out; have := L2.out; omega) | (have := F1.out; have := F2.out; have := L1.out; have : ([] : List Pr).length = 0 := rfl; omega) | (have := F1.out; have := F2.out; have := L2.out; have : ([] : List Pr).length = 0 := rfl; omega)
              · go_wp2_with (go_at_fn g; refine HY.out m (x1, x2) true true _ _ HM.out H4 ?_; intro w5 H5 I5)
                go_quiet (fail)
                go_wp2_with fail
                go_roundw
                case rel => exact ⟨l1, l2, m ++ [((x1, x2), true, true)], Lib.hid (readsP_tail h1.out o1 (fun h => absurd (List.eq_nil_of_length_eq_zero (by first | (have := F1.out; have := F2.out; have := L1.out; have := L2.out; omega) | (have := F1.out; have := F2.out; have := L1.out; have : ([] : List Pr).length = 0 := rfl; omega) | (have := F1.out; have := F2.out; have := L2.out; have : ([] : List Pr).length = 0 := rfl; omega))) h) _), Lib.hid (readsP_tail h2.out (o2 + 2) (fun _ => rfl) _), by simp only [vfit]; first | (have := F1.out; have := F2.out; have := L1.out; have := L2.out; omega) | (have := F1.out; have := F2.out; have := L1.out; have : ([] : List Pr).length = 0 := rfl; omega) | (have := F1.out; have := F2.out; have := L2.out; have : ([] : List Pr).length = 0 := rfl; omega), by simp only [vfit]; first | (have := F1.out; have := F2.out; have := L1.out; have := L2.out; omega) | (have := F1.out; have := F2.out; have := L1.out; have : ([] : List Pr).length = 0 := rfl; omega) | (have := F1.out; have := F2.out; have := L2.out; have : ([] : List Pr).length = 0 := rfl; omega), hm, H5.drewN _, ((Ik.drew.trans I4).trans I5).drewN _⟩
                case measure => simp only [vlen]; first | (have := F1.out; have := F2.out; have := L1.out; have := L2.out; omega) | (have := F1.out; have := F2.out; have := L1.out; have : ([] : List Pr).length = 0 := rfl; omega) | (have := F1.out; have := F2.out; have := L2.out; have : ([] : List Pr).length = 0 := rfl; omega)
            · by_cases hc2 : c2 = 1
              · go_wp2_with (go_at_fn g; refine HY.out m (x1, x2) true true _ _ HM.out H4 ?_; intro w5 H5 I5)
                go_quiet (fail)
                go_wp2_with fail
                go_roundw
                case rel => exact ⟨l1, l2, m ++ [((x1, x2), true, true)], Lib.hid (readsP_tail h1.out (o1 + 2) (fun _ => rfl) _), Lib.hid (readsP_tail h2.out o2 (fun h => absurd (List.eq_nil_of_length_eq_zero (by first | (have := F1.out; have := F2.out; have := L1.out; have := L2.out; omega) | (have := F1.out; have := F2.out; have := L1.out; have : ([] : List Pr).length = 0 := rfl; omega) | (have := F1.out; have := F2.out; have := L2.out; have : ([] : List Pr).length = 0 := rfl; omega))) h) _), by simp only [vfit]; first | (have := F1.out; have := F2.out; have := L1.out; have := L2.out; omega) | (have := F1.out; have := F2.out; have := L1.out; have : ([] : List Pr).length = 0 := rfl; omega) | (have := F1.out; have := F2.out; have := L2.out; have : ([] : List Pr).length = 0 := rfl; omega), by simp only [vfit]; first | (have := F1.out; have := F2.out; have := L1.out; have := L2.out; omega) | (have := F1.out; have := F2.out; have := L1.out; have : ([] : List Pr).length = 0 := rfl; omega) | (have := F1.out; have := F2.out; have := L2.out; have : ([] : List Pr).length = 0 := rfl; omega), hm, H5.drewN _, ((Ik.drew.trans I4).trans I5).drewN _⟩
                case measure => simp only [vlen]; first | (have := F1.out; have := F2.out; have := L1.out; have := L2.out; omega) | (have := F1.out; have := F2.out; have := L1.out; have : ([] : List Pr).length = 0 := rfl; omega) | (have := F1.out; have := F2.out; have := L2.out; have : ([] : List Pr).length = 0 := rfl; omega)
              · go_wp2_with (go_at_fn g; refine HY.out m (x1, x2) true true _ _ HM.out H4 ?_; intro w5 H5 I5)
                go_quiet (fail)
                go_wp2_with fail
                go_roundw
                case rel => exact ⟨l1, l2, m ++ [((x1, x2), true, true)], Lib.hid (readsP_tail h1.out (o1 + 2) (fun _ => rfl) _), Lib.hid (readsP_tail h2.out (o2 + 2) (fun _ => rfl) _), by simp only [vfit]; first | (have := F1.out; have := F2.out; have := L1.out; have := L2.out; omega) | (have := F1.out; have := F2.out; have := L1.out; have : ([] : List Pr).length = 0 := rfl; omega) | (have := F1.out; have := F2.out; have := L2.out; have : ([] : List Pr).length = 0 := rfl; omega), by simp only [vfit]; first | (have := F1.out; have := F2.out; have := L1.out; have := L2.out; omega) | (have := F1.out; have := F2.out; have := L1.out; have : ([] : List Pr).length = 0 := rfl; omega) | (have := F1.out; have := F2.out; have := L2.out; have : ([] : List Pr).length = 0 := rfl; omega), hm, H5.drewN _, ((Ik.drew.trans I4).trans I5).drewN _⟩
                case measure => simp only [vlen]; first | (have := F1.out; have := F2.out; have := L1.out; have := L2.out; omega) | (have := F1.out; have := F2.out; have := L1.out; have : ([] : List Pr).length = 0 := rfl; omega) | (have := F1.out; have := F2.out; have := L2.out; have : ([] : List Pr).length = 0 := rfl; omega)
end
end Go.Proofs.Ytmacannchaalaaa
