/-
  The document's lists of pairs: Minus, by its walk. It proves no statement by itself.
-/
import Derived.Test.YtmacannchaalaaaE3Q
namespace Go.Proofs.Ytmacannchaalaaa
open Go.RowKit
set_option linter.unusedSimpArgs false
set_option linter.unusedVariables false

namespace Eg
theorem mfil_take (b s : List Pr) (k : Nat) (hk : k < s.length) : (s.take (k + 1)).filter (fun x => !decide (x ∈ b)) = if s[k] ∈ b then (s.take k).filter (fun x => !decide (x ∈ b)) else (s.take k).filter (fun x => !decide (x ∈ b)) ++ [s[k]] := by
  rw [List.take_succ_eq_append_getElem hk, List.filter_append]
  by_cases h : s[k] ∈ b <;> simp [h]
theorem minus_le (a b : List Pr) : (minus a b).length ≤ a.length := by
  have h1 : (minus a b).length ≤ (sort a).length := List.length_filter_le _ _
  have h2 := sort_len a
  omega
end Eg
section
variable {F : Asn} {w : World} {R : Ending → World → Prop} {l m : List Pr} {v u : Value}
set_option maxRecDepth 100000 in
set_option maxHeartbeats 2000000 in
theorem rminus_any (hv : ReadsP F v l) (hl : l.length ≤ 1000) (hu : ReadsP F u m) (H : Sat F w) (h : ∀ v' w', Sat (RowP v' (Eg.minus l m) * F) w' → Io w w' → R (.returned v') w') :
    Calls Try.prog 27 #[v, u] w R := by
  have hSl := Eg.sort_len l
  obtain ⟨S, hS⟩ : ∃ S, Hid (S = Eg.sort l) := ⟨_, Lib.hid rfl⟩
  have HH := Lib.hid h
  rw [← hS.out] at hSl
  clear h
  go_enter Try.func27, Try.ntmps27
  go_wp2_with (go_at_call 26; with_reducible refine rsort_any hv hl H ?_; intro vs w1 H1 I1)
  rw [← hS.out] at H1
  have hs := readsP_row H1 (by omega)
  obtain ⟨sa, sc, rfl, hm⟩ := readsP_len hs
  have HV := Lib.hid (fun k hk => readsP_get hs k hk)
  have HU := fun G => Lib.hid ((hu.with (G := RowP (.slice sa S.length sc) S)).with (G := G))
  clear hs hu hv
  go_loopw [5, 7] (fun y x wr => ∃ (k : Nat) (o : List Pr), k ≤ S.length ∧ x = .int .i64 (k : Int) ∧ Hid ((S.take k).filter (fun x => !decide (x ∈ m)) = o) ∧ Sat (RowP y o * (RowP (.slice sa S.length sc) S * F)) wr ∧ Io w wr) (fun _ x _ => S.length - (intOf x).toNat)
  case atStart => exact ⟨0, [], by omega, rfl, Lib.hid rfl, row_nilP H1, I1⟩
  case round =>
    obtain ⟨k, o, hk, rfl, hs, Hk, Ik⟩ := hrel
    clear H1 I1
    by_cases hlt : k < S.length
    · have hlti : (k : Int) < (S.length : Int) := by omega
      obtain ⟨b, off, x1, x2, rfl, hx, hc⟩ := HV.out k hlt
      obtain ⟨c0, c1⟩ := hc wr Hk.right
      have ol : o.length ≤ 1000 := by
        have := List.length_filter_le (fun x => !decide (x ∈ m)) (S.take k)
        rw [hs.out, List.length_take] at this
        omega
      have hw := Eg.mfil_take m S k hlt
      rw [hs.out, hx] at hw
      obtain ⟨d, hd⟩ : ∃ d, Hid (d = decide ((x1, x2) ∈ m)) := ⟨_, Lib.hid rfl⟩
      have HS := Lib.hid hw
      have OL := Lib.hid ol
      have HC := Lib.hid hc
      clear hc hx hs ol hw
      cases d with
      | true =>
        have HS' : Hid ((S.take (k + 1)).filter (fun x => !decide (x ∈ m)) = o) := Lib.hid (by rw [HS.out, if_pos (of_decide_eq_true hd.out.symm)])
        go_wp2_with (go_at_call 23; with_reducible refine rhas_d (p := (x1, x2)) (HU _).out hd Hk ?_; intro w2 H2 I2)
        go_roundw
        case rel => exact ⟨k + 1, o, by omega, by go_num, HS', H2, Ik.trans I2⟩
        case measure => simp [intOf]; omega
      | false =>
        have HS' : Hid ((S.take (k + 1)).filter (fun x => !decide (x ∈ m)) = o ++ [(x1, x2)]) := Lib.hid (by rw [HS.out, if_neg (of_decide_eq_false hd.out.symm)])
        go_wp2_with (first | (go_at_call 23; with_reducible refine rhas_d (p := (x1, x2)) (HU _).out hd Hk ?_; intro w2 H2 I2; obtain ⟨z0, z1⟩ := HC.out w2 H2.right) | (at_builtin; refine wpList_append_pair rfl (.tmp 25) (.tmp 30) rfl rfl H2 (by have := OL.out; omega) rfl rfl ?_; intro v3 w3 H3 I3))
        go_roundw
        case rel => exact ⟨k + 1, o ++ [(x1, x2)], by omega, by go_num, HS', H3, (Ik.trans I2).trans I3⟩
        case measure => simp [intOf]; omega
    · obtain rfl : k = S.length := by omega
      have hge : ¬ (S.length : Int) < (S.length : Int) := by omega
      have he : Hid (Eg.minus l m = o) := Lib.hid (by unfold Eg.minus; rw [← hS.out, ← hs.out, List.take_length])
      clear HV HU
      go_wp2_with fail
      refine HH.out _ _ ?_ Ik
      rw [he.out]
      exact Hk.mid
end
end Go.Proofs.Ytmacannchaalaaa
