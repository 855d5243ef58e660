/-
  Edges: the statements of keys and of orders, by their walks. It proves no statement by itself.
-/
import Derived.Test.YtmacannchaalaaaE3O
namespace Go.Proofs.Ytmacannchaalaaa
open Go.RowKit
set_option linter.unusedSimpArgs false
set_option linter.unusedVariables false

section
variable {F : Asn} {w : World} {R : Ending → World → Prop}
theorem key_d (H : Sat F w) (u v : Int) {k : ByteArray} {e : Int} (hk : Hid (keyS u v = k)) (he : Hid (keyE u v = e)) (h : ∀ w', Sat F w' → Io w w' → R (.returned (.tuple #[.string k, .int .i64 e])) w') :
    Calls Try.prog 15 #[.int .i64 u, .int .i64 v] w R := key_any H u v (by rw [hk.out, he.out]; exact h)
theorem rkey_d (H : Sat F w) (u v : Int) {k : ByteArray} (hk : Hid (keyS u v = k)) (he : Hid (keyE u v = 0)) (h : ∀ w', Sat F w' → Io w w' → R (.returned (.string k)) w') :
    Calls Try.prog 17 #[.int .i64 u, .int .i64 v] w R := rkey_any H u v he.out (by rw [hk.out]; exact h)
theorem parse_yes (H : Sat F w) (s : ByteArray) (hs : Hid (s.size ≤ 9223372036854775807)) {x y : Int} (he : Hid (prsE s = 0)) (hx : Hid (prsU s = x)) (hy : Hid (prsV s = y)) (h : ∀ w', Sat F w' → Io w w' → R (.returned (.tuple #[.int .i64 x, .int .i64 y, .int .i64 0])) w') :
    Calls Try.prog 16 #[.string s] w R := parse_any H s hs.out (by rw [he.out, if_pos rfl, if_pos rfl, hx.out, hy.out]; exact h)
theorem parse_no (H : Sat F w) (s : ByteArray) (hs : Hid (s.size ≤ 9223372036854775807)) (he : Hid (prsE s ≠ 0)) (h : ∀ w', Sat F w' → Io w w' → R (.returned (.tuple #[.int .i64 0, .int .i64 0, .int .i64 30])) w') :
    Calls Try.prog 16 #[.string s] w R := parse_any H s hs.out (by rw [prs_no he.out, if_neg (by decide), if_neg (by decide)]; exact h)
theorem keyS_small (u v : Int) : (keyS u v).size ≤ 9223372036854775807 := by
  unfold keyS
  split
  · rw [tx_size, keyL_length]; omega
  · decide
set_option maxRecDepth 100000 in
set_option maxHeartbeats 4000000 in
theorem edgeKeys_any (u v : Int) (s : ByteArray) (hs : s.size ≤ 9223372036854775807) (H : Sat F w) (h : ∀ w', Sat F w' → Io w w' → R (.returned (.bool true)) w') : Calls Try.prog 4 #[.int .i64 u, .int .i64 v, .string s] w R := by
  have HH := Lib.hid h
  have HS := Lib.hid hs
  have HK := Lib.hid (keyS_small u v)
  clear h hs
  have k1 : ∀ k : ByteArray, (k.toList == k.toList) = true := fun k => by simp
  have k2 : ∀ k : ByteArray, (k.toList != k.toList) = false := fun k => by simp
  by_cases he : keyE u v = 0
  · obtain ⟨p0, p1, p2⟩ := prs_key he
    have huv : verE u = 0 ∧ verE v = 0 := by
      unfold keyE at he
      by_cases hu : verE u = 0 <;> by_cases hv : verE v = 0 <;> simp_all
    have HU := Lib.hid huv.1
    have HV := Lib.hid huv.2
    have HE := Lib.hid he
    have P0 := Lib.hid p0
    have P1 := Lib.hid p1
    have P2 := Lib.hid p2
    obtain ⟨k, hk⟩ : ∃ k, keyS u v = k := ⟨_, rfl⟩
    rw [hk] at P0 P1 P2 HK
    have KK := Lib.hid hk
    clear he p0 p1 p2 huv hk
    by_cases hp : prsE s = 0
    · obtain ⟨b0, b1⟩ := prs_back hp
      have PE := Lib.hid hp
      obtain ⟨x, hx⟩ : ∃ x, prsU s = x := ⟨_, rfl⟩
      obtain ⟨y, hy⟩ : ∃ y, prsV s = y := ⟨_, rfl⟩
      rw [hx, hy] at b0 b1
      have B0 := Lib.hid b0
      have B1 := Lib.hid b1
      have HX := Lib.hid hx
      have HY := Lib.hid hy
      clear hp b0 b1 hx hy
      go_enter Try.func4, Try.ntmps4
      go_wp2_with (first
        | (go_at_call 11; with_reducible refine works_any H ?_; intro w1 H1 I1)
        | (go_at_call 15; first | (with_reducible refine key_d H1 u v KK HE ?_; intro w2 H2 I2) | (with_reducible refine key_d H5 x y B1 B0 ?_; intro w6 H6 I6))
        | (go_at_call 12; first | (with_reducible refine rvertex_d u HU ?_) | (with_reducible refine rvertex_d v HV ?_))
        | (go_at_call 16; first | (with_reducible refine parse_yes H2 k HK P0 P1 P2 ?_; intro w3 H3 I3) | (with_reducible refine parse_yes H4 s HS PE HX HY ?_; intro w5 H5 I5))
        | (go_at_call 17; with_reducible refine rkey_d H3 u v KK HE ?_; intro w4 H4 I4))
      exact HH.out _ H6 (((((I1.trans I2).trans I3).trans I4).trans I5).trans I6)
    · have PE := Lib.hid hp
      clear hp
      go_enter Try.func4, Try.ntmps4
      go_wp2_with (first
        | (go_at_call 11; with_reducible refine works_any H ?_; intro w1 H1 I1)
        | (go_at_call 15; with_reducible refine key_d H1 u v KK HE ?_; intro w2 H2 I2)
        | (go_at_call 12; first | (with_reducible refine rvertex_d u HU ?_) | (with_reducible refine rvertex_d v HV ?_))
        | (go_at_call 16; first | (with_reducible refine parse_yes H2 k HK P0 P1 P2 ?_; intro w3 H3 I3) | (with_reducible refine parse_no H4 s HS PE ?_; intro w5 H5 I5))
        | (go_at_call 17; with_reducible refine rkey_d H3 u v KK HE ?_; intro w4 H4 I4))
      exact HH.out _ H5 ((((I1.trans I2).trans I3).trans I4).trans I5)
  · have he30 : keyE u v = 30 := by unfold keyE at he ⊢; split <;> simp_all
    have KK : Hid (keyS u v = ⟨#[]⟩) := Lib.hid (by unfold keyS; rw [if_neg he]; rfl)
    have HE := Lib.hid he30
    have huv : (decide (verE u = 0) && decide (verE v = 0)) = false := by
      unfold keyE at he
      by_cases hu : verE u = 0 <;> by_cases hv : verE v = 0 <;> simp_all
    obtain ⟨eu, hu⟩ : ∃ eu, verE u = eu := ⟨_, rfl⟩
    obtain ⟨ev, hv⟩ : ∃ ev, verE v = ev := ⟨_, rfl⟩
    rw [hu, hv] at huv
    have HU := Lib.hid hu
    have HV := Lib.hid hv
    clear he he30 hu hv
    by_cases hp : prsE s = 0
    · obtain ⟨b0, b1⟩ := prs_back hp
      have PE := Lib.hid hp
      obtain ⟨x, hx⟩ : ∃ x, prsU s = x := ⟨_, rfl⟩
      obtain ⟨y, hy⟩ : ∃ y, prsV s = y := ⟨_, rfl⟩
      rw [hx, hy] at b0 b1
      have B0 := Lib.hid b0
      have B1 := Lib.hid b1
      have HX := Lib.hid hx
      have HY := Lib.hid hy
      clear hp b0 b1 hx hy
      by_cases h0 : eu = 0
      · have h1 : ¬ ev = 0 := by simpa [h0] using huv
        have d0 : decide (eu = 0) = true := by simpa using h0
        have d1 : decide (ev = 0) = false := by simpa using h1
        clear huv h0 h1
        go_enter Try.func4, Try.ntmps4
        go_wp2_with (first
          | (go_at_call 11; with_reducible refine works_any H ?_; intro w1 H1 I1)
          | (go_at_call 15; first | (with_reducible refine key_d H1 u v KK HE ?_; intro w2 H2 I2) | (with_reducible refine key_d H5 x y B1 B0 ?_; intro w6 H6 I6))
          | (go_at_call 12; first | (with_reducible refine rvertex_d u HU ?_; rw [d0]) | (with_reducible refine rvertex_d v HV ?_; rw [d1]))
          | (go_at_call 16; (with_reducible refine parse_yes H2 s HS PE HX HY ?_; intro w5 H5 I5)))
        exact HH.out _ H6 (((I1.trans I2).trans I5).trans I6)
      · have d0 : decide (eu = 0) = false := by simpa using h0
        obtain ⟨d1, hd1⟩ : ∃ d, decide (ev = 0) = d := ⟨_, rfl⟩
        clear huv h0
        go_enter Try.func4, Try.ntmps4
        go_wp2_with (first
          | (go_at_call 11; with_reducible refine works_any H ?_; intro w1 H1 I1)
          | (go_at_call 15; first | (with_reducible refine key_d H1 u v KK HE ?_; intro w2 H2 I2) | (with_reducible refine key_d H5 x y B1 B0 ?_; intro w6 H6 I6))
          | (go_at_call 12; first | (with_reducible refine rvertex_d u HU ?_; rw [d0]) | (with_reducible refine rvertex_d v HV ?_; rw [hd1]))
          | (go_at_call 16; (with_reducible refine parse_yes H2 s HS PE HX HY ?_; intro w5 H5 I5)))
        exact HH.out _ H6 (((I1.trans I2).trans I5).trans I6)
    · have PE := Lib.hid hp
      clear hp
      by_cases h0 : eu = 0
      · have h1 : ¬ ev = 0 := by simpa [h0] using huv
        have d0 : decide (eu = 0) = true := by simpa using h0
        have d1 : decide (ev = 0) = false := by simpa using h1
        clear huv h0 h1
        go_enter Try.func4, Try.ntmps4
        go_wp2_with (first
          | (go_at_call 11; with_reducible refine works_any H ?_; intro w1 H1 I1)
          | (go_at_call 15; (with_reducible refine key_d H1 u v KK HE ?_; intro w2 H2 I2))
          | (go_at_call 12; first | (with_reducible refine rvertex_d u HU ?_; rw [d0]) | (with_reducible refine rvertex_d v HV ?_; rw [d1]))
          | (go_at_call 16; (with_reducible refine parse_no H2 s HS PE ?_; intro w5 H5 I5)))
        exact HH.out _ H5 ((I1.trans I2).trans I5)
      · have d0 : decide (eu = 0) = false := by simpa using h0
        obtain ⟨d1, hd1⟩ : ∃ d, decide (ev = 0) = d := ⟨_, rfl⟩
        clear huv h0
        go_enter Try.func4, Try.ntmps4
        go_wp2_with (first
          | (go_at_call 11; with_reducible refine works_any H ?_; intro w1 H1 I1)
          | (go_at_call 15; (with_reducible refine key_d H1 u v KK HE ?_; intro w2 H2 I2))
          | (go_at_call 12; first | (with_reducible refine rvertex_d u HU ?_; rw [d0]) | (with_reducible refine rvertex_d v HV ?_; rw [hd1]))
          | (go_at_call 16; (with_reducible refine parse_no H2 s HS PE ?_; intro w5 H5 I5)))
        exact HH.out _ H5 ((I1.trans I2).trans I5)
end
end Go.Proofs.Ytmacannchaalaaa
