/-
  A page that is another one in at most four bytes in a row: the law's walk. It proves no statement by itself.
-/
import Derived.Test.YtnjhededdpjlgaaDoorPgH
namespace Go.Proofs.YtnjhededdpjlgaaDoor
open Go.RowKit
set_option linter.unusedSimpArgs false
set_option linter.unusedVariables false

theorem byte_zero (x : UInt8) : (x = 0 ∧ ((x.toNat : Int) == 0) = true) ∨ (x ≠ 0 ∧ ((x.toNat : Int) == 0) = false) := by
  by_cases e : x = 0
  · left; subst e; exact ⟨rfl, rfl⟩
  · right; refine ⟨e, ?_⟩; rw [beq_eq_false_iff_ne]; intro hh; exact e (UInt8.toNat_inj.1 (by simpa using hh))

/-- Four stores in a row of bytes, one behind the other. -/
theorem four_stores {F : Asn} {w : World} {g : Nat} {L : List UInt8} (H : Sat (BRow g L * F) w) (k : Nat) (hk : k + 4 ≤ L.length) (x0 x1 x2 x3 : UInt8) :
    ∃ r0 r1 r2 r3 v0 v1 v2 v3 : Int, bits .xor .u8 r0 (x0.toNat : Int) = v0 ∧ bits .xor .u8 r1 (x1.toNat : Int) = v1 ∧ bits .xor .u8 r2 (x2.toNat : Int) = v2 ∧ bits .xor .u8 r3 (x3.toNat : Int) = v3 ∧
      g < w.heap.size ∧
      w.cell? ⟨g, k, none⟩ = some (.int .u8 r0) ∧ w.frozen? ⟨g, k, none⟩ = false ∧
      (w.setCell ⟨g, k, none⟩ (.int .u8 v0)).cell? ⟨g, k + 1, none⟩ = some (.int .u8 r1) ∧ (w.setCell ⟨g, k, none⟩ (.int .u8 v0)).frozen? ⟨g, k + 1, none⟩ = false ∧
      ((w.setCell ⟨g, k, none⟩ (.int .u8 v0)).setCell ⟨g, k + 1, none⟩ (.int .u8 v1)).cell? ⟨g, k + 2, none⟩ = some (.int .u8 r2) ∧ ((w.setCell ⟨g, k, none⟩ (.int .u8 v0)).setCell ⟨g, k + 1, none⟩ (.int .u8 v1)).frozen? ⟨g, k + 2, none⟩ = false ∧
      (((w.setCell ⟨g, k, none⟩ (.int .u8 v0)).setCell ⟨g, k + 1, none⟩ (.int .u8 v1)).setCell ⟨g, k + 2, none⟩ (.int .u8 v2)).cell? ⟨g, k + 3, none⟩ = some (.int .u8 r3) ∧ (((w.setCell ⟨g, k, none⟩ (.int .u8 v0)).setCell ⟨g, k + 1, none⟩ (.int .u8 v1)).setCell ⟨g, k + 2, none⟩ (.int .u8 v2)).frozen? ⟨g, k + 3, none⟩ = false ∧
      Sat (BRow g (hm4 L k x0 x1 x2 x3) * F) ((((w.setCell ⟨g, k, none⟩ (.int .u8 v0)).setCell ⟨g, k + 1, none⟩ (.int .u8 v1)).setCell ⟨g, k + 2, none⟩ (.int .u8 v2)).setCell ⟨g, k + 3, none⟩ (.int .u8 v3)) := by
  have H1 := brow_set H k (L.getD k 0 ^^^ x0)
  have l1 := hm_length L k x0
  have H2 := brow_set H1 (k + 1) ((hm L k x0).getD (k + 1) 0 ^^^ x1)
  have l2 := hm_length (hm L k x0) (k + 1) x1
  have H3 := brow_set H2 (k + 2) ((hm (hm L k x0) (k + 1) x1).getD (k + 2) 0 ^^^ x2)
  have l3 := hm_length (hm (hm L k x0) (k + 1) x1) (k + 2) x2
  have H4 := brow_set H3 (k + 3) ((hm (hm (hm L k x0) (k + 1) x1) (k + 2) x2).getD (k + 3) 0 ^^^ x3)
  obtain ⟨lg, g0⟩ := brow_get H
  obtain ⟨_, g1⟩ := brow_get H1
  obtain ⟨_, g2⟩ := brow_get H2
  obtain ⟨_, g3⟩ := brow_get H3
  exact ⟨_, _, _, _, _, _, _, _, u8_xor_bytes _ _, u8_xor_bytes _ _, u8_xor_bytes _ _, u8_xor_bytes _ _, lg,
    (g0 k (by omega)).1, (g0 k (by omega)).2, (g1 (k + 1) (by show _ < (hm L k x0).length; omega)).1, (g1 (k + 1) (by show _ < (hm L k x0).length; omega)).2,
    (g2 (k + 2) (by show _ < (hm (hm L k x0) (k + 1) x1).length; omega)).1, (g2 (k + 2) (by show _ < (hm (hm L k x0) (k + 1) x1).length; omega)).2,
    (g3 (k + 3) (by show _ < (hm (hm (hm L k x0) (k + 1) x1) (k + 2) x2).length; omega)).1, (g3 (k + 3) (by show _ < (hm (hm (hm L k x0) (k + 1) x1) (k + 2) x2).length; omega)).2, H4⟩

section
variable {F : Asn} {w : World} {R : Ending → World → Prop}
set_option maxRecDepth 100000 in
set_option maxHeartbeats 4000000 in
theorem harm_walk (hv : Hv F) (id : Int) (k : UInt8) (b : ByteArray) (at_ : Int) (x0 x1 x2 x3 : UInt8) (o : Int) (hb : b.size ≤ 9223372036854775807) (H : Sat F w)
    (h : ∀ w', Sat F w' → Io w w' → R (.returned (.bool true)) w') :
    Calls Tryd.prog 6 #[.int .i64 id, .int .u8 (k.toNat : Int), .string b, .int .i64 at_, .int .u8 (x0.toNat : Int), .int .u8 (x1.toNat : Int), .int .u8 (x2.toNat : Int), .int .u8 (x3.toNat : Int), .int .i64 o] w R := by
  have zb : (b.size : Int) ≤ 9223372036854775807 := by omega
  have hb1 := Lib.hid hb
  have HH := Lib.hid h
  clear hb h
  by_cases g1 : 2048 < (b.size : Int)
  · go_enter Tryd.func6, Tryd.ntmps6
    go_wp2_with fail
    refine works_any hv H ?_
    intro w1 H1 I1
    go_wp2_with fail
    all_goals exact HH.out w1 H1 I1
  have g1' : (b.size : Int) ≤ 2048 := by omega
  clear g1
  have q0 := Lib.hid (byte_zero x0)
  have q1 := Lib.hid (byte_zero x1)
  have q2 := Lib.hid (byte_zero x2)
  have q3 := Lib.hid (byte_zero x3)
  have fs := Lib.hid (fun (F : Asn) (w : World) (g : Nat) (L : List UInt8) (H : Sat (BRow g L * F) w) (k : Nat) (hk : k + 4 ≤ L.length) => four_stores H k hk x0 x1 x2 x3)
  generalize (x0.toNat : Int) = y0 at *
  generalize (x1.toNat : Int) = y1 at *
  generalize (x2.toNat : Int) = y2 at *
  generalize (x3.toNat : Int) = y3 at *
  go_enter Tryd.func6, Tryd.ntmps6
  go_wp2_with fail
  refine works_any hv H ?_
  intro w1 H1 I1
  go_wp2_with fail
  refine seal_any hv H1 id k b hb1.out ?_
  intro w2 H2 I2
  have J2 := I1.trans I2
  by_cases c1 : sealE id b = 0
  · obtain ⟨L, hL, lL, cL⟩ := seal_tx (k := k) c1
    have oO : Hid (openV o (tx L) = if o = id then .tuple #[.int .u8 (k.toNat : Nat), .string b, .int .i64 0] else .tuple #[.int .u8 0, .string ByteArray.empty, .int .i64 3]) := Lib.hid (by
      rw [← hL]
      split
      · rename_i e; rw [e]; exact (seal_back c1).2.2
      · rename_i e; exact open_other c1 e)
    rw [c1, hL]
    have LL := Lib.hid lL
    have CL := Lib.hid cL
    have z : (tx L).size = 256 := by rw [tx_size, lL]
    have zi : ((tx L).size : Int) = 256 := by omega
    have zz : Hid ((tx L).size ≤ 1000000) := Lib.hid (by omega)
    have ZZ := Lib.hid z
    have hs : (tx L).data.toList = L := tx_list L
    have HS := Lib.hid hs
    obtain ⟨S, eS⟩ : ∃ S, Hid (S = tx L) := ⟨_, Lib.hid rfl⟩
    rw [← eS.out] at zi zz HS oO ZZ ⊢
    clear z hs lL cL hL c1
    go_wp2_with fail
    refine open_any hv H2 o S zz.out ?_
    intro w3 H3 I3
    have J3 := J2.trans I3
    rw [oO.out]
    clear H H1 H2 I1 I2 I3 J2 oO
    have fin3 := HH.out w3 H3 J3
    obtain ⟨kk, bb, ee, eo, hV, E1, E2⟩ : ∃ (kk : UInt8) (bb : ByteArray) (ee : Int) (eo : Bool), (if o = id then (Value.tuple #[.int .u8 (k.toNat : Nat), .string b, .int .i64 0]) else .tuple #[.int .u8 0, .string ByteArray.empty, .int .i64 3]) = .tuple #[.int .u8 (kk.toNat : Nat), .string bb, .int .i64 ee] ∧ (ee == 0) = eo ∧ (o == id) = eo := by
      by_cases e : o = id
      · exact ⟨k, b, 0, true, by rw [if_pos e], rfl, by rw [beq_iff_eq]; exact e⟩
      · exact ⟨0, ByteArray.empty, 3, false, by rw [if_neg e]; rfl, rfl, by rw [beq_eq_false_iff_ne]; exact e⟩
    rw [hV]
    clear hV
    obtain ⟨K, hK, hK2⟩ : ∃ K : Nat, min (max at_ 0) 252 = (K : Int) ∧ (K : Int) ≤ 252 := ⟨(min (max at_ 0) 252).toNat, by omega, by omega⟩
    by_cases hne : x0 = 0 ∧ x1 = 0 ∧ x2 = 0 ∧ x3 = 0
    · have r0 : (y0 == 0) = true := by
        rcases q0.out with q | q
        · exact q.2
        · exact absurd hne.1 q.1
      have r1 : (y1 == 0) = true := by
        rcases q1.out with q | q
        · exact q.2
        · exact absurd hne.2.1 q.1
      have r2 : (y2 == 0) = true := by
        rcases q2.out with q | q
        · exact q.2
        · exact absurd hne.2.2.1 q.1
      have r3 : (y3 == 0) = true := by
        rcases q3.out with q | q
        · exact q.2
        · exact absurd hne.2.2.2 q.1
      clear q0 q1 q2 q3 hne fs HH
      go_wp2_with fail
      exact fin3
    · have HNE := Lib.hid hne
      have qq : ((y0 == 0) = false) ∨ ((y0 == 0) = true ∧ (y1 == 0) = false) ∨ ((y0 == 0) = true ∧ (y1 == 0) = true ∧ (y2 == 0) = false) ∨ ((y0 == 0) = true ∧ (y1 == 0) = true ∧ (y2 == 0) = true ∧ (y3 == 0) = false) := by
        rcases q0.out with q0 | q0
        · rcases q1.out with q1 | q1
          · rcases q2.out with q2 | q2
            · rcases q3.out with q3 | q3
              · exact absurd ⟨q0.1, q1.1, q2.1, q3.1⟩ hne
              · exact .inr (.inr (.inr ⟨q0.2, q1.2, q2.2, q3.2⟩))
            · exact .inr (.inr (.inl ⟨q0.2, q1.2, q2.2⟩))
          · exact .inr (.inl ⟨q0.2, q1.2⟩)
        · exact .inl q0.2
      clear q0 q1 q2 q3 hne
      obtain ⟨g, cap, W0, kc, B0, B1⟩ : ∃ g cap W0, (convert 9 37 (.string S)).run Tryd.prog w3 = .ok (.slice (some ⟨g, 0, none⟩) 256 cap) W0 ∧ Sat (BRow g L * F) W0 ∧ Io w W0 := by
        have e := Lib.run_convert_string_bytes (P := Tryd.prog) w3 _ _ _ S Tryd.underlying9 Tryd.underlying37 Tryd.underlying5
        rw [ZZ.out] at e
        have b0 := brow_new S H3
        rw [HS.out] at b0
        exact ⟨_, _, _, e, b0, J3.trans (bytes_io 5 S)⟩
      clear H3 J3 fin3
      rcases qq with q | ⟨p0, q⟩ | ⟨p0, p1, q⟩ | ⟨p0, p1, p2, q⟩
      · by_cases kk4 : 0 < (K : Int) ∧ (K : Int) < 4
        · have k1 : (0 : Int) < (K : Int) := kk4.1
          have k2 : (K : Int) < 4 := kk4.2
          clear kk4
          obtain ⟨r0, r1, r2, r3, v0, v1, v2, v3, b0, b1, b2, b3, lg, c0, f0, c1, f1, c2, f2, c3, f3, H4⟩ := fs.out F W0 g L B0 0 (by rw [LL.out]; omega)
          simp only [Nat.zero_add] at c1 f1 c2 f2 c3 f3 H4
          have I4 := (((B1.setCell ⟨g, 0, none⟩ (.int .u8 v0)).setCell ⟨g, 1, none⟩ (.int .u8 v1)).setCell ⟨g, 2, none⟩ (.int .u8 v2)).setCell ⟨g, 3, none⟩ (.int .u8 v3)
          have l4 : (hm4 L 0 x0 x1 x2 x3).length = 256 := by unfold hm4; rw [hm_length, hm_length, hm_length, hm_length]; exact LL.out
          have ck : Hid (chkB (tx (hm4 L 0 x0 x1 x2 x3)) = false) := Lib.hid (hm4_chk LL.out (.inl rfl) (by omega) HNE.out CL.out)
          have op : Hid (openV id (tx (hm4 L 0 x0 x1 x2 x3)) = .tuple #[.int .u8 0, .string ByteArray.empty, .int .i64 3]) := Lib.hid (open_none ck.out)
          have kz : ∀ W, Sat (BRow g (hm4 L 0 x0 x1 x2 x3) * F) W → (convert 37 9 (.slice (some ⟨g, 0, none⟩) 256 cap)).run Tryd.prog W = .ok (.string (tx (hm4 L 0 x0 x1 x2 x3))) W := fun W h => by have := brow_str (P := Tryd.prog) h 37 5 9 Tryd.underlying37 Tryd.underlying5 Tryd.underlying9 cap; rwa [l4] at this
          have k4 := kz _ H4
          have zt : Hid ((tx (hm4 L 0 x0 x1 x2 x3)).size ≤ 1000000) := Lib.hid (by rw [tx_size, l4]; decide)
          have KZ := Lib.hid kz
          clear kz l4 fs
          generalize tx (hm4 L 0 x0 x1 x2 x3) = T at *
          generalize hm4 L 0 x0 x1 x2 x3 = L4 at *
          have F4 := Lib.hid H4
          have J4 := Lib.hid I4
          clear H4 I4 B0 B1
          go_wp2_with fail
          refine open_any hv.with F4.out id T zt.out ?_
          intro w5 H5 I5
          rw [op.out]
          have k5 := KZ.out w5 H5
          have J5 := J4.out.trans I5
          clear F4 J4 I5 k4 c0 f0 c1 f1 c2 f2 c3 f3
          go_wp2_with fail
          refine chk_any hv.with H5 T zt.out ?_
          intro w6 H6 I6
          rw [ck.out]
          have fin := HH.out w6 H6.right (J5.trans I6)
          clear HH KZ k5
          go_wp2_with fail
          exact fin
        · have k3 : (K : Int) = 0 ∨ 4 ≤ (K : Int) := by omega
          clear kk4
          have k5 : (K = 0 ∨ 4 ≤ K) := by omega
          have K5 := Lib.hid k5
          clear k5
          have k6 : (decide (0 < (K : Int)) && decide ((K : Int) < 4)) = false := by rcases k3 with e | e <;> simp <;> omega
          rcases k3 with k3 | k3
          · obtain rfl : K = 0 := by omega
            clear k3 k6
            obtain ⟨r0, r1, r2, r3, v0, v1, v2, v3, b0, b1, b2, b3, lg, c0, f0, c1, f1, c2, f2, c3, f3, H4⟩ := fs.out F W0 g L B0 0 (by rw [LL.out]; omega)
            simp only [Nat.zero_add] at c1 f1 c2 f2 c3 f3 H4
            have I4 := (((B1.setCell ⟨g, 0, none⟩ (.int .u8 v0)).setCell ⟨g, 1, none⟩ (.int .u8 v1)).setCell ⟨g, 2, none⟩ (.int .u8 v2)).setCell ⟨g, 3, none⟩ (.int .u8 v3)
            have l4 : (hm4 L 0 x0 x1 x2 x3).length = 256 := by unfold hm4; rw [hm_length, hm_length, hm_length, hm_length]; exact LL.out
            have ck : Hid (chkB (tx (hm4 L 0 x0 x1 x2 x3)) = false) := Lib.hid (hm4_chk LL.out (.inl rfl) (by omega) HNE.out CL.out)
            have op : Hid (openV id (tx (hm4 L 0 x0 x1 x2 x3)) = .tuple #[.int .u8 0, .string ByteArray.empty, .int .i64 3]) := Lib.hid (open_none ck.out)
            have kz : ∀ W, Sat (BRow g (hm4 L 0 x0 x1 x2 x3) * F) W → (convert 37 9 (.slice (some ⟨g, 0, none⟩) 256 cap)).run Tryd.prog W = .ok (.string (tx (hm4 L 0 x0 x1 x2 x3))) W := fun W h => by have := brow_str (P := Tryd.prog) h 37 5 9 Tryd.underlying37 Tryd.underlying5 Tryd.underlying9 cap; rwa [l4] at this
            have k4 := kz _ H4
            have zt : Hid ((tx (hm4 L 0 x0 x1 x2 x3)).size ≤ 1000000) := Lib.hid (by rw [tx_size, l4]; decide)
            have KZ := Lib.hid kz
            clear kz l4 fs
            generalize tx (hm4 L 0 x0 x1 x2 x3) = T at *
            generalize hm4 L 0 x0 x1 x2 x3 = L4 at *
            have F4 := Lib.hid H4
            have J4 := Lib.hid I4
            clear H4 I4 B0 B1
            go_wp2_with fail
            refine open_any hv.with F4.out id T zt.out ?_
            intro w5 H5 I5
            rw [op.out]
            have k5 := KZ.out w5 H5
            have J5 := J4.out.trans I5
            clear F4 J4 I5 k4 c0 f0 c1 f1 c2 f2 c3 f3
            go_wp2_with fail
            refine chk_any hv.with H5 T zt.out ?_
            intro w6 H6 I6
            rw [ck.out]
            have fin := HH.out w6 H6.right (J5.trans I6)
            clear HH KZ k5
            go_wp2_with fail
            exact fin
          · have k7 : decide ((K : Int) < 4) = false := by rw [decide_eq_false_iff_not]; omega
            have k8 : ¬ (K : Int) < 4 := by omega
            clear k6
            obtain ⟨r0, r1, r2, r3, v0, v1, v2, v3, b0, b1, b2, b3, lg, c0, f0, c1, f1, c2, f2, c3, f3, H4⟩ := fs.out F W0 g L B0 K (by rw [LL.out]; omega)
            have I4 := (((B1.setCell ⟨g, K, none⟩ (.int .u8 v0)).setCell ⟨g, K + 1, none⟩ (.int .u8 v1)).setCell ⟨g, K + 2, none⟩ (.int .u8 v2)).setCell ⟨g, K + 3, none⟩ (.int .u8 v3)
            have l4 : (hm4 L K x0 x1 x2 x3).length = 256 := by unfold hm4; rw [hm_length, hm_length, hm_length, hm_length]; exact LL.out
            have ck : Hid (chkB (tx (hm4 L K x0 x1 x2 x3)) = false) := Lib.hid (hm4_chk LL.out (.inr (by omega)) (by omega) HNE.out CL.out)
            have op : Hid (openV id (tx (hm4 L K x0 x1 x2 x3)) = .tuple #[.int .u8 0, .string ByteArray.empty, .int .i64 3]) := Lib.hid (open_none ck.out)
            have kz : ∀ W, Sat (BRow g (hm4 L K x0 x1 x2 x3) * F) W → (convert 37 9 (.slice (some ⟨g, 0, none⟩) 256 cap)).run Tryd.prog W = .ok (.string (tx (hm4 L K x0 x1 x2 x3))) W := fun W h => by have := brow_str (P := Tryd.prog) h 37 5 9 Tryd.underlying37 Tryd.underlying5 Tryd.underlying9 cap; rwa [l4] at this
            have k4 := kz _ H4
            have zt : Hid ((tx (hm4 L K x0 x1 x2 x3)).size ≤ 1000000) := Lib.hid (by rw [tx_size, l4]; decide)
            have KZ := Lib.hid kz
            clear kz l4 fs
            generalize tx (hm4 L K x0 x1 x2 x3) = T at *
            generalize hm4 L K x0 x1 x2 x3 = L4 at *
            have F4 := Lib.hid H4
            have J4 := Lib.hid I4
            clear H4 I4 B0 B1
            go_wp2_with fail
            refine open_any hv.with F4.out id T zt.out ?_
            intro w5 H5 I5
            rw [op.out]
            have k5 := KZ.out w5 H5
            have J5 := J4.out.trans I5
            clear F4 J4 I5 k4 c0 f0 c1 f1 c2 f2 c3 f3
            go_wp2_with fail
            refine chk_any hv.with H5 T zt.out ?_
            intro w6 H6 I6
            rw [ck.out]
            have fin := HH.out w6 H6.right (J5.trans I6)
            clear HH KZ k5
            go_wp2_with fail
            exact fin
      · by_cases kk4 : 0 < (K : Int) ∧ (K : Int) < 4
        · have k1 : (0 : Int) < (K : Int) := kk4.1
          have k2 : (K : Int) < 4 := kk4.2
          clear kk4
          obtain ⟨r0, r1, r2, r3, v0, v1, v2, v3, b0, b1, b2, b3, lg, c0, f0, c1, f1, c2, f2, c3, f3, H4⟩ := fs.out F W0 g L B0 0 (by rw [LL.out]; omega)
          simp only [Nat.zero_add] at c1 f1 c2 f2 c3 f3 H4
          have I4 := (((B1.setCell ⟨g, 0, none⟩ (.int .u8 v0)).setCell ⟨g, 1, none⟩ (.int .u8 v1)).setCell ⟨g, 2, none⟩ (.int .u8 v2)).setCell ⟨g, 3, none⟩ (.int .u8 v3)
          have l4 : (hm4 L 0 x0 x1 x2 x3).length = 256 := by unfold hm4; rw [hm_length, hm_length, hm_length, hm_length]; exact LL.out
          have ck : Hid (chkB (tx (hm4 L 0 x0 x1 x2 x3)) = false) := Lib.hid (hm4_chk LL.out (.inl rfl) (by omega) HNE.out CL.out)
          have op : Hid (openV id (tx (hm4 L 0 x0 x1 x2 x3)) = .tuple #[.int .u8 0, .string ByteArray.empty, .int .i64 3]) := Lib.hid (open_none ck.out)
          have kz : ∀ W, Sat (BRow g (hm4 L 0 x0 x1 x2 x3) * F) W → (convert 37 9 (.slice (some ⟨g, 0, none⟩) 256 cap)).run Tryd.prog W = .ok (.string (tx (hm4 L 0 x0 x1 x2 x3))) W := fun W h => by have := brow_str (P := Tryd.prog) h 37 5 9 Tryd.underlying37 Tryd.underlying5 Tryd.underlying9 cap; rwa [l4] at this
          have k4 := kz _ H4
          have zt : Hid ((tx (hm4 L 0 x0 x1 x2 x3)).size ≤ 1000000) := Lib.hid (by rw [tx_size, l4]; decide)
          have KZ := Lib.hid kz
          clear kz l4 fs
          generalize tx (hm4 L 0 x0 x1 x2 x3) = T at *
          generalize hm4 L 0 x0 x1 x2 x3 = L4 at *
          have F4 := Lib.hid H4
          have J4 := Lib.hid I4
          clear H4 I4 B0 B1
          go_wp2_with fail
          refine open_any hv.with F4.out id T zt.out ?_
          intro w5 H5 I5
          rw [op.out]
          have k5 := KZ.out w5 H5
          have J5 := J4.out.trans I5
          clear F4 J4 I5 k4 c0 f0 c1 f1 c2 f2 c3 f3
          go_wp2_with fail
          refine chk_any hv.with H5 T zt.out ?_
          intro w6 H6 I6
          rw [ck.out]
          have fin := HH.out w6 H6.right (J5.trans I6)
          clear HH KZ k5
          go_wp2_with fail
          exact fin
        · have k3 : (K : Int) = 0 ∨ 4 ≤ (K : Int) := by omega
          clear kk4
          have k5 : (K = 0 ∨ 4 ≤ K) := by omega
          have K5 := Lib.hid k5
          clear k5
          have k6 : (decide (0 < (K : Int)) && decide ((K : Int) < 4)) = false := by rcases k3 with e | e <;> simp <;> omega
          rcases k3 with k3 | k3
          · obtain rfl : K = 0 := by omega
            clear k3 k6
            obtain ⟨r0, r1, r2, r3, v0, v1, v2, v3, b0, b1, b2, b3, lg, c0, f0, c1, f1, c2, f2, c3, f3, H4⟩ := fs.out F W0 g L B0 0 (by rw [LL.out]; omega)
            simp only [Nat.zero_add] at c1 f1 c2 f2 c3 f3 H4
            have I4 := (((B1.setCell ⟨g, 0, none⟩ (.int .u8 v0)).setCell ⟨g, 1, none⟩ (.int .u8 v1)).setCell ⟨g, 2, none⟩ (.int .u8 v2)).setCell ⟨g, 3, none⟩ (.int .u8 v3)
            have l4 : (hm4 L 0 x0 x1 x2 x3).length = 256 := by unfold hm4; rw [hm_length, hm_length, hm_length, hm_length]; exact LL.out
            have ck : Hid (chkB (tx (hm4 L 0 x0 x1 x2 x3)) = false) := Lib.hid (hm4_chk LL.out (.inl rfl) (by omega) HNE.out CL.out)
            have op : Hid (openV id (tx (hm4 L 0 x0 x1 x2 x3)) = .tuple #[.int .u8 0, .string ByteArray.empty, .int .i64 3]) := Lib.hid (open_none ck.out)
            have kz : ∀ W, Sat (BRow g (hm4 L 0 x0 x1 x2 x3) * F) W → (convert 37 9 (.slice (some ⟨g, 0, none⟩) 256 cap)).run Tryd.prog W = .ok (.string (tx (hm4 L 0 x0 x1 x2 x3))) W := fun W h => by have := brow_str (P := Tryd.prog) h 37 5 9 Tryd.underlying37 Tryd.underlying5 Tryd.underlying9 cap; rwa [l4] at this
            have k4 := kz _ H4
            have zt : Hid ((tx (hm4 L 0 x0 x1 x2 x3)).size ≤ 1000000) := Lib.hid (by rw [tx_size, l4]; decide)
            have KZ := Lib.hid kz
            clear kz l4 fs
            generalize tx (hm4 L 0 x0 x1 x2 x3) = T at *
            generalize hm4 L 0 x0 x1 x2 x3 = L4 at *
            have F4 := Lib.hid H4
            have J4 := Lib.hid I4
            clear H4 I4 B0 B1
            go_wp2_with fail
            refine open_any hv.with F4.out id T zt.out ?_
            intro w5 H5 I5
            rw [op.out]
            have k5 := KZ.out w5 H5
            have J5 := J4.out.trans I5
            clear F4 J4 I5 k4 c0 f0 c1 f1 c2 f2 c3 f3
            go_wp2_with fail
            refine chk_any hv.with H5 T zt.out ?_
            intro w6 H6 I6
            rw [ck.out]
            have fin := HH.out w6 H6.right (J5.trans I6)
            clear HH KZ k5
            go_wp2_with fail
            exact fin
          · have k7 : decide ((K : Int) < 4) = false := by rw [decide_eq_false_iff_not]; omega
            have k8 : ¬ (K : Int) < 4 := by omega
            clear k6
            obtain ⟨r0, r1, r2, r3, v0, v1, v2, v3, b0, b1, b2, b3, lg, c0, f0, c1, f1, c2, f2, c3, f3, H4⟩ := fs.out F W0 g L B0 K (by rw [LL.out]; omega)
            have I4 := (((B1.setCell ⟨g, K, none⟩ (.int .u8 v0)).setCell ⟨g, K + 1, none⟩ (.int .u8 v1)).setCell ⟨g, K + 2, none⟩ (.int .u8 v2)).setCell ⟨g, K + 3, none⟩ (.int .u8 v3)
            have l4 : (hm4 L K x0 x1 x2 x3).length = 256 := by unfold hm4; rw [hm_length, hm_length, hm_length, hm_length]; exact LL.out
            have ck : Hid (chkB (tx (hm4 L K x0 x1 x2 x3)) = false) := Lib.hid (hm4_chk LL.out (.inr (by omega)) (by omega) HNE.out CL.out)
            have op : Hid (openV id (tx (hm4 L K x0 x1 x2 x3)) = .tuple #[.int .u8 0, .string ByteArray.empty, .int .i64 3]) := Lib.hid (open_none ck.out)
            have kz : ∀ W, Sat (BRow g (hm4 L K x0 x1 x2 x3) * F) W → (convert 37 9 (.slice (some ⟨g, 0, none⟩) 256 cap)).run Tryd.prog W = .ok (.string (tx (hm4 L K x0 x1 x2 x3))) W := fun W h => by have := brow_str (P := Tryd.prog) h 37 5 9 Tryd.underlying37 Tryd.underlying5 Tryd.underlying9 cap; rwa [l4] at this
            have k4 := kz _ H4
            have zt : Hid ((tx (hm4 L K x0 x1 x2 x3)).size ≤ 1000000) := Lib.hid (by rw [tx_size, l4]; decide)
            have KZ := Lib.hid kz
            clear kz l4 fs
            generalize tx (hm4 L K x0 x1 x2 x3) = T at *
            generalize hm4 L K x0 x1 x2 x3 = L4 at *
            have F4 := Lib.hid H4
            have J4 := Lib.hid I4
            clear H4 I4 B0 B1
            go_wp2_with fail
            refine open_any hv.with F4.out id T zt.out ?_
            intro w5 H5 I5
            rw [op.out]
            have k5 := KZ.out w5 H5
            have J5 := J4.out.trans I5
            clear F4 J4 I5 k4 c0 f0 c1 f1 c2 f2 c3 f3
            go_wp2_with fail
            refine chk_any hv.with H5 T zt.out ?_
            intro w6 H6 I6
            rw [ck.out]
            have fin := HH.out w6 H6.right (J5.trans I6)
            clear HH KZ k5
            go_wp2_with fail
            exact fin
      · by_cases kk4 : 0 < (K : Int) ∧ (K : Int) < 4
        · have k1 : (0 : Int) < (K : Int) := kk4.1
          have k2 : (K : Int) < 4 := kk4.2
          clear kk4
          obtain ⟨r0, r1, r2, r3, v0, v1, v2, v3, b0, b1, b2, b3, lg, c0, f0, c1, f1, c2, f2, c3, f3, H4⟩ := fs.out F W0 g L B0 0 (by rw [LL.out]; omega)
          simp only [Nat.zero_add] at c1 f1 c2 f2 c3 f3 H4
          have I4 := (((B1.setCell ⟨g, 0, none⟩ (.int .u8 v0)).setCell ⟨g, 1, none⟩ (.int .u8 v1)).setCell ⟨g, 2, none⟩ (.int .u8 v2)).setCell ⟨g, 3, none⟩ (.int .u8 v3)
          have l4 : (hm4 L 0 x0 x1 x2 x3).length = 256 := by unfold hm4; rw [hm_length, hm_length, hm_length, hm_length]; exact LL.out
          have ck : Hid (chkB (tx (hm4 L 0 x0 x1 x2 x3)) = false) := Lib.hid (hm4_chk LL.out (.inl rfl) (by omega) HNE.out CL.out)
          have op : Hid (openV id (tx (hm4 L 0 x0 x1 x2 x3)) = .tuple #[.int .u8 0, .string ByteArray.empty, .int .i64 3]) := Lib.hid (open_none ck.out)
          have kz : ∀ W, Sat (BRow g (hm4 L 0 x0 x1 x2 x3) * F) W → (convert 37 9 (.slice (some ⟨g, 0, none⟩) 256 cap)).run Tryd.prog W = .ok (.string (tx (hm4 L 0 x0 x1 x2 x3))) W := fun W h => by have := brow_str (P := Tryd.prog) h 37 5 9 Tryd.underlying37 Tryd.underlying5 Tryd.underlying9 cap; rwa [l4] at this
          have k4 := kz _ H4
          have zt : Hid ((tx (hm4 L 0 x0 x1 x2 x3)).size ≤ 1000000) := Lib.hid (by rw [tx_size, l4]; decide)
          have KZ := Lib.hid kz
          clear kz l4 fs
          generalize tx (hm4 L 0 x0 x1 x2 x3) = T at *
          generalize hm4 L 0 x0 x1 x2 x3 = L4 at *
          have F4 := Lib.hid H4
          have J4 := Lib.hid I4
          clear H4 I4 B0 B1
          go_wp2_with fail
          refine open_any hv.with F4.out id T zt.out ?_
          intro w5 H5 I5
          rw [op.out]
          have k5 := KZ.out w5 H5
          have J5 := J4.out.trans I5
          clear F4 J4 I5 k4 c0 f0 c1 f1 c2 f2 c3 f3
          go_wp2_with fail
          refine chk_any hv.with H5 T zt.out ?_
          intro w6 H6 I6
          rw [ck.out]
          have fin := HH.out w6 H6.right (J5.trans I6)
          clear HH KZ k5
          go_wp2_with fail
          exact fin
        · have k3 : (K : Int) = 0 ∨ 4 ≤ (K : Int) := by omega
          clear kk4
          have k5 : (K = 0 ∨ 4 ≤ K) := by omega
          have K5 := Lib.hid k5
          clear k5
          have k6 : (decide (0 < (K : Int)) && decide ((K : Int) < 4)) = false := by rcases k3 with e | e <;> simp <;> omega
          rcases k3 with k3 | k3
          · obtain rfl : K = 0 := by omega
            clear k3 k6
            obtain ⟨r0, r1, r2, r3, v0, v1, v2, v3, b0, b1, b2, b3, lg, c0, f0, c1, f1, c2, f2, c3, f3, H4⟩ := fs.out F W0 g L B0 0 (by rw [LL.out]; omega)
            simp only [Nat.zero_add] at c1 f1 c2 f2 c3 f3 H4
            have I4 := (((B1.setCell ⟨g, 0, none⟩ (.int .u8 v0)).setCell ⟨g, 1, none⟩ (.int .u8 v1)).setCell ⟨g, 2, none⟩ (.int .u8 v2)).setCell ⟨g, 3, none⟩ (.int .u8 v3)
            have l4 : (hm4 L 0 x0 x1 x2 x3).length = 256 := by unfold hm4; rw [hm_length, hm_length, hm_length, hm_length]; exact LL.out
            have ck : Hid (chkB (tx (hm4 L 0 x0 x1 x2 x3)) = false) := Lib.hid (hm4_chk LL.out (.inl rfl) (by omega) HNE.out CL.out)
            have op : Hid (openV id (tx (hm4 L 0 x0 x1 x2 x3)) = .tuple #[.int .u8 0, .string ByteArray.empty, .int .i64 3]) := Lib.hid (open_none ck.out)
            have kz : ∀ W, Sat (BRow g (hm4 L 0 x0 x1 x2 x3) * F) W → (convert 37 9 (.slice (some ⟨g, 0, none⟩) 256 cap)).run Tryd.prog W = .ok (.string (tx (hm4 L 0 x0 x1 x2 x3))) W := fun W h => by have := brow_str (P := Tryd.prog) h 37 5 9 Tryd.underlying37 Tryd.underlying5 Tryd.underlying9 cap; rwa [l4] at this
            have k4 := kz _ H4
            have zt : Hid ((tx (hm4 L 0 x0 x1 x2 x3)).size ≤ 1000000) := Lib.hid (by rw [tx_size, l4]; decide)
            have KZ := Lib.hid kz
            clear kz l4 fs
            generalize tx (hm4 L 0 x0 x1 x2 x3) = T at *
            generalize hm4 L 0 x0 x1 x2 x3 = L4 at *
            have F4 := Lib.hid H4
            have J4 := Lib.hid I4
            clear H4 I4 B0 B1
            go_wp2_with fail
            refine open_any hv.with F4.out id T zt.out ?_
            intro w5 H5 I5
            rw [op.out]
            have k5 := KZ.out w5 H5
            have J5 := J4.out.trans I5
            clear F4 J4 I5 k4 c0 f0 c1 f1 c2 f2 c3 f3
            go_wp2_with fail
            refine chk_any hv.with H5 T zt.out ?_
            intro w6 H6 I6
            rw [ck.out]
            have fin := HH.out w6 H6.right (J5.trans I6)
            clear HH KZ k5
            go_wp2_with fail
            exact fin
          · have k7 : decide ((K : Int) < 4) = false := by rw [decide_eq_false_iff_not]; omega
            have k8 : ¬ (K : Int) < 4 := by omega
            clear k6
            obtain ⟨r0, r1, r2, r3, v0, v1, v2, v3, b0, b1, b2, b3, lg, c0, f0, c1, f1, c2, f2, c3, f3, H4⟩ := fs.out F W0 g L B0 K (by rw [LL.out]; omega)
            have I4 := (((B1.setCell ⟨g, K, none⟩ (.int .u8 v0)).setCell ⟨g, K + 1, none⟩ (.int .u8 v1)).setCell ⟨g, K + 2, none⟩ (.int .u8 v2)).setCell ⟨g, K + 3, none⟩ (.int .u8 v3)
            have l4 : (hm4 L K x0 x1 x2 x3).length = 256 := by unfold hm4; rw [hm_length, hm_length, hm_length, hm_length]; exact LL.out
            have ck : Hid (chkB (tx (hm4 L K x0 x1 x2 x3)) = false) := Lib.hid (hm4_chk LL.out (.inr (by omega)) (by omega) HNE.out CL.out)
            have op : Hid (openV id (tx (hm4 L K x0 x1 x2 x3)) = .tuple #[.int .u8 0, .string ByteArray.empty, .int .i64 3]) := Lib.hid (open_none ck.out)
            have kz : ∀ W, Sat (BRow g (hm4 L K x0 x1 x2 x3) * F) W → (convert 37 9 (.slice (some ⟨g, 0, none⟩) 256 cap)).run Tryd.prog W = .ok (.string (tx (hm4 L K x0 x1 x2 x3))) W := fun W h => by have := brow_str (P := Tryd.prog) h 37 5 9 Tryd.underlying37 Tryd.underlying5 Tryd.underlying9 cap; rwa [l4] at this
            have k4 := kz _ H4
            have zt : Hid ((tx (hm4 L K x0 x1 x2 x3)).size ≤ 1000000) := Lib.hid (by rw [tx_size, l4]; decide)
            have KZ := Lib.hid kz
            clear kz l4 fs
            generalize tx (hm4 L K x0 x1 x2 x3) = T at *
            generalize hm4 L K x0 x1 x2 x3 = L4 at *
            have F4 := Lib.hid H4
            have J4 := Lib.hid I4
            clear H4 I4 B0 B1
            go_wp2_with fail
            refine open_any hv.with F4.out id T zt.out ?_
            intro w5 H5 I5
            rw [op.out]
            have k5 := KZ.out w5 H5
            have J5 := J4.out.trans I5
            clear F4 J4 I5 k4 c0 f0 c1 f1 c2 f2 c3 f3
            go_wp2_with fail
            refine chk_any hv.with H5 T zt.out ?_
            intro w6 H6 I6
            rw [ck.out]
            have fin := HH.out w6 H6.right (J5.trans I6)
            clear HH KZ k5
            go_wp2_with fail
            exact fin
      · by_cases kk4 : 0 < (K : Int) ∧ (K : Int) < 4
        · have k1 : (0 : Int) < (K : Int) := kk4.1
          have k2 : (K : Int) < 4 := kk4.2
          clear kk4
          obtain ⟨r0, r1, r2, r3, v0, v1, v2, v3, b0, b1, b2, b3, lg, c0, f0, c1, f1, c2, f2, c3, f3, H4⟩ := fs.out F W0 g L B0 0 (by rw [LL.out]; omega)
          simp only [Nat.zero_add] at c1 f1 c2 f2 c3 f3 H4
          have I4 := (((B1.setCell ⟨g, 0, none⟩ (.int .u8 v0)).setCell ⟨g, 1, none⟩ (.int .u8 v1)).setCell ⟨g, 2, none⟩ (.int .u8 v2)).setCell ⟨g, 3, none⟩ (.int .u8 v3)
          have l4 : (hm4 L 0 x0 x1 x2 x3).length = 256 := by unfold hm4; rw [hm_length, hm_length, hm_length, hm_length]; exact LL.out
          have ck : Hid (chkB (tx (hm4 L 0 x0 x1 x2 x3)) = false) := Lib.hid (hm4_chk LL.out (.inl rfl) (by omega) HNE.out CL.out)
          have op : Hid (openV id (tx (hm4 L 0 x0 x1 x2 x3)) = .tuple #[.int .u8 0, .string ByteArray.empty, .int .i64 3]) := Lib.hid (open_none ck.out)
          have kz : ∀ W, Sat (BRow g (hm4 L 0 x0 x1 x2 x3) * F) W → (convert 37 9 (.slice (some ⟨g, 0, none⟩) 256 cap)).run Tryd.prog W = .ok (.string (tx (hm4 L 0 x0 x1 x2 x3))) W := fun W h => by have := brow_str (P := Tryd.prog) h 37 5 9 Tryd.underlying37 Tryd.underlying5 Tryd.underlying9 cap; rwa [l4] at this
          have k4 := kz _ H4
          have zt : Hid ((tx (hm4 L 0 x0 x1 x2 x3)).size ≤ 1000000) := Lib.hid (by rw [tx_size, l4]; decide)
          have KZ := Lib.hid kz
          clear kz l4 fs
          generalize tx (hm4 L 0 x0 x1 x2 x3) = T at *
          generalize hm4 L 0 x0 x1 x2 x3 = L4 at *
          have F4 := Lib.hid H4
          have J4 := Lib.hid I4
          clear H4 I4 B0 B1
          go_wp2_with fail
          refine open_any hv.with F4.out id T zt.out ?_
          intro w5 H5 I5
          rw [op.out]
          have k5 := KZ.out w5 H5
          have J5 := J4.out.trans I5
          clear F4 J4 I5 k4 c0 f0 c1 f1 c2 f2 c3 f3
          go_wp2_with fail
          refine chk_any hv.with H5 T zt.out ?_
          intro w6 H6 I6
          rw [ck.out]
          have fin := HH.out w6 H6.right (J5.trans I6)
          clear HH KZ k5
          go_wp2_with fail
          exact fin
        · have k3 : (K : Int) = 0 ∨ 4 ≤ (K : Int) := by omega
          clear kk4
          have k5 : (K = 0 ∨ 4 ≤ K) := by omega
          have K5 := Lib.hid k5
          clear k5
          have k6 : (decide (0 < (K : Int)) && decide ((K : Int) < 4)) = false := by rcases k3 with e | e <;> simp <;> omega
          rcases k3 with k3 | k3
          · obtain rfl : K = 0 := by omega
            clear k3 k6
            obtain ⟨r0, r1, r2, r3, v0, v1, v2, v3, b0, b1, b2, b3, lg, c0, f0, c1, f1, c2, f2, c3, f3, H4⟩ := fs.out F W0 g L B0 0 (by rw [LL.out]; omega)
            simp only [Nat.zero_add] at c1 f1 c2 f2 c3 f3 H4
            have I4 := (((B1.setCell ⟨g, 0, none⟩ (.int .u8 v0)).setCell ⟨g, 1, none⟩ (.int .u8 v1)).setCell ⟨g, 2, none⟩ (.int .u8 v2)).setCell ⟨g, 3, none⟩ (.int .u8 v3)
            have l4 : (hm4 L 0 x0 x1 x2 x3).length = 256 := by unfold hm4; rw [hm_length, hm_length, hm_length, hm_length]; exact LL.out
            have ck : Hid (chkB (tx (hm4 L 0 x0 x1 x2 x3)) = false) := Lib.hid (hm4_chk LL.out (.inl rfl) (by omega) HNE.out CL.out)
            have op : Hid (openV id (tx (hm4 L 0 x0 x1 x2 x3)) = .tuple #[.int .u8 0, .string ByteArray.empty, .int .i64 3]) := Lib.hid (open_none ck.out)
            have kz : ∀ W, Sat (BRow g (hm4 L 0 x0 x1 x2 x3) * F) W → (convert 37 9 (.slice (some ⟨g, 0, none⟩) 256 cap)).run Tryd.prog W = .ok (.string (tx (hm4 L 0 x0 x1 x2 x3))) W := fun W h => by have := brow_str (P := Tryd.prog) h 37 5 9 Tryd.underlying37 Tryd.underlying5 Tryd.underlying9 cap; rwa [l4] at this
            have k4 := kz _ H4
            have zt : Hid ((tx (hm4 L 0 x0 x1 x2 x3)).size ≤ 1000000) := Lib.hid (by rw [tx_size, l4]; decide)
            have KZ := Lib.hid kz
            clear kz l4 fs
            generalize tx (hm4 L 0 x0 x1 x2 x3) = T at *
            generalize hm4 L 0 x0 x1 x2 x3 = L4 at *
            have F4 := Lib.hid H4
            have J4 := Lib.hid I4
            clear H4 I4 B0 B1
            go_wp2_with fail
            refine open_any hv.with F4.out id T zt.out ?_
            intro w5 H5 I5
            rw [op.out]
            have k5 := KZ.out w5 H5
            have J5 := J4.out.trans I5
            clear F4 J4 I5 k4 c0 f0 c1 f1 c2 f2 c3 f3
            go_wp2_with fail
            refine chk_any hv.with H5 T zt.out ?_
            intro w6 H6 I6
            rw [ck.out]
            have fin := HH.out w6 H6.right (J5.trans I6)
            clear HH KZ k5
            go_wp2_with fail
            exact fin
          · have k7 : decide ((K : Int) < 4) = false := by rw [decide_eq_false_iff_not]; omega
            have k8 : ¬ (K : Int) < 4 := by omega
            clear k6
            obtain ⟨r0, r1, r2, r3, v0, v1, v2, v3, b0, b1, b2, b3, lg, c0, f0, c1, f1, c2, f2, c3, f3, H4⟩ := fs.out F W0 g L B0 K (by rw [LL.out]; omega)
            have I4 := (((B1.setCell ⟨g, K, none⟩ (.int .u8 v0)).setCell ⟨g, K + 1, none⟩ (.int .u8 v1)).setCell ⟨g, K + 2, none⟩ (.int .u8 v2)).setCell ⟨g, K + 3, none⟩ (.int .u8 v3)
            have l4 : (hm4 L K x0 x1 x2 x3).length = 256 := by unfold hm4; rw [hm_length, hm_length, hm_length, hm_length]; exact LL.out
            have ck : Hid (chkB (tx (hm4 L K x0 x1 x2 x3)) = false) := Lib.hid (hm4_chk LL.out (.inr (by omega)) (by omega) HNE.out CL.out)
            have op : Hid (openV id (tx (hm4 L K x0 x1 x2 x3)) = .tuple #[.int .u8 0, .string ByteArray.empty, .int .i64 3]) := Lib.hid (open_none ck.out)
            have kz : ∀ W, Sat (BRow g (hm4 L K x0 x1 x2 x3) * F) W → (convert 37 9 (.slice (some ⟨g, 0, none⟩) 256 cap)).run Tryd.prog W = .ok (.string (tx (hm4 L K x0 x1 x2 x3))) W := fun W h => by have := brow_str (P := Tryd.prog) h 37 5 9 Tryd.underlying37 Tryd.underlying5 Tryd.underlying9 cap; rwa [l4] at this
            have k4 := kz _ H4
            have zt : Hid ((tx (hm4 L K x0 x1 x2 x3)).size ≤ 1000000) := Lib.hid (by rw [tx_size, l4]; decide)
            have KZ := Lib.hid kz
            clear kz l4 fs
            generalize tx (hm4 L K x0 x1 x2 x3) = T at *
            generalize hm4 L K x0 x1 x2 x3 = L4 at *
            have F4 := Lib.hid H4
            have J4 := Lib.hid I4
            clear H4 I4 B0 B1
            go_wp2_with fail
            refine open_any hv.with F4.out id T zt.out ?_
            intro w5 H5 I5
            rw [op.out]
            have k5 := KZ.out w5 H5
            have J5 := J4.out.trans I5
            clear F4 J4 I5 k4 c0 f0 c1 f1 c2 f2 c3 f3
            go_wp2_with fail
            refine chk_any hv.with H5 T zt.out ?_
            intro w6 H6 I6
            rw [ck.out]
            have fin := HH.out w6 H6.right (J5.trans I6)
            clear HH KZ k5
            go_wp2_with fail
            exact fin
  · have d1 : (sealE id b != 0) = true := by rw [bne_iff_ne]; exact c1
    have fin2 := HH.out w2 H2 J2
    generalize sealE id b = e1 at *
    generalize sealS id k b = s1 at *
    clear HH
    go_wp2_with fail
    exact fin2
end
end Go.Proofs.YtnjhededdpjlgaaDoor
